/- Plain laws about items, for the statements: what the statements' own maker makes of numbers. Conditions: the numbers are bytes. -/
import Derived.Test.YtbmimcpllpgcaaaPI2
import Derived.Test.YtbmimcpllpgcaaaG6
namespace Go.Proofs.Ytbmimcpllpgcaaa.Pure
open Go.RowKit Go.Pk Go.Proofs.Ytbmimcpllpgcaaa.G Go.Proofs.YtbmimcpllpgcaaaW.PrintWords Go.Proofs.YtbmimcpllpgcaaaW.PrintLast

/-! texts in order -/
def lt (a b : ByteArray) : Bool := Op.bytesLess a.toList b.toList
theorem lt_irr (a : ByteArray) : lt a a = false := less_irrefl _
theorem lt_tr {a b c : ByteArray} (h : lt a b = true) (k : lt b c = true) : lt a c = true := less_trans _ _ _ h k
theorem lt_tot (a b : ByteArray) : lt a b = true ∨ a = b ∨ lt b a = true := by
  rcases less_total a.toList b.toList with h | h | h
  · exact .inl h
  · exact .inr (.inl (toList_inj h))
  · exact .inr (.inr h)
theorem rises_pair (l : List ByteArray) : risesB l = true ↔ l.Pairwise (fun a b => lt a b = true) := by
  induction l with
  | nil => simp [risesB]
  | cons x l ih =>
    cases l with
    | nil => simp [risesB]
    | cons y l =>
      rw [show risesB (x :: y :: l) = (!lowP y x && risesB (y :: l)) from rfl, Bool.and_eq_true, ih, Bool.not_eq_true', low_less, List.pairwise_cons (a := x)]
      constructor
      · rintro ⟨h1, h2⟩
        refine ⟨fun z hz => ?_, h2⟩
        rcases List.mem_cons.1 hz with rfl | hz
        · exact h1
        · exact lt_tr h1 ((List.pairwise_cons.1 h2).1 z hz)
      · rintro ⟨h1, h2⟩
        exact ⟨h1 y (List.mem_cons_self), h2⟩

/-! a hash with one more -/
section
variable (n v : ByteArray)
def goH : List S29 → Bool → List S29
  | [], b => if b = true then [] else [⟨n, v⟩]
  | x :: l, b => (if (!b && !lt x.f0 n) = true then [⟨n, v⟩] else []) ++ ((if x.f0 = n then [] else [x]) ++ goH l (b || !lt x.f0 n))
theorem goH_true (l : List S29) : goH n v l true = l.filter fun x => decide (x.f0 ≠ n) := by
  induction l with
  | nil => rfl
  | cons x l ih =>
    unfold goH
    rw [List.filter_cons]
    simp only [Bool.not_true, Bool.false_and, Bool.true_or, ih]
    by_cases h : x.f0 = n <;> simp [h]
theorem goH_false (l : List S29) : goH n v l false = (l.takeWhile fun x => lt x.f0 n) ++ (⟨n, v⟩ :: (l.dropWhile fun x => lt x.f0 n).filter fun x => decide (x.f0 ≠ n)) := by
  induction l with
  | nil => rfl
  | cons x l ih =>
    unfold goH
    rw [List.takeWhile_cons, List.dropWhile_cons]
    cases q : lt x.f0 n
    · simp only [Bool.not_false, Bool.true_and, Bool.false_or, goH_true]
      by_cases h : x.f0 = n <;> simp [h]
    · have h : x.f0 ≠ n := fun e => by rw [e, lt_irr] at q; cases q
      simp only [Bool.not_true, Bool.and_false, Bool.or_false, ih, if_neg h]
      simp
theorem goH_mem (l : List S29) (b : Bool) : ∀ x ∈ goH n v l b, x ∈ l ∨ x = ⟨n, v⟩ := by
  induction l generalizing b with
  | nil => intro x hx; unfold goH at hx; split at hx <;> simp_all
  | cons y l ih =>
    intro x hx
    unfold goH at hx
    rcases List.mem_append.1 hx with h | h
    · split at h
      · exact .inr (by simpa using h)
      · simp at h
    · rcases List.mem_append.1 h with h | h
      · split at h
        · simp at h
        · exact .inl (by simp at h; simp [h])
      · rcases ih _ x h with h | h
        · exact .inl (List.mem_cons_of_mem _ h)
        · exact .inr h
theorem goH_len (l : List S29) : ∀ b, (goH n v l b).length ≤ l.length + 1 := by
  have : ∀ b, (goH n v l b).length ≤ l.length + (if b = true then 0 else 1) := by
    induction l with
    | nil => intro b; unfold goH; cases b <;> simp
    | cons y l ih =>
      intro b
      unfold goH
      have h1 := ih true
      have h2 := ih false
      have h3 : (if y.f0 = n then [] else [y] : List S29).length ≤ 1 := by split <;> simp
      rw [List.length_append, List.length_append, List.length_cons]
      generalize (if y.f0 = n then [] else [y] : List S29) = z at h3
      cases b <;> cases lt y.f0 n <;> simp at h1 h2 ⊢ <;> omega
  intro b
  have := this b
  split at this <;> omega
theorem goH_pos (l : List S29) : 0 < (goH n v l false).length := by rw [goH_false, List.length_append, List.length_cons]; omega
theorem goH_rise (l : List S29) (h : (l.map S29.f0).Pairwise (fun a b => lt a b = true)) : ((goH n v l false).map S29.f0).Pairwise (fun a b => lt a b = true) := by
  rw [goH_false, List.map_append, List.map_cons, List.pairwise_append, List.pairwise_cons]
  rw [List.pairwise_map] at h
  have hsplit : l = (l.takeWhile fun x => lt x.f0 n) ++ (l.dropWhile fun x => lt x.f0 n) := (List.takeWhile_append_dropWhile).symm
  have hA : (l.takeWhile fun x => lt x.f0 n).Pairwise (fun a b => lt a.f0 b.f0 = true) := h.sublist (List.takeWhile_sublist _)
  have hD : (l.dropWhile fun x => lt x.f0 n).Pairwise (fun a b => lt a.f0 b.f0 = true) := h.sublist (List.dropWhile_sublist _)
  have hlt : ∀ x ∈ (l.takeWhile fun x => lt x.f0 n), lt x.f0 n = true := fun x hx => by
    have := List.all_takeWhile (p := fun x : S29 => lt x.f0 n) (l := l)
    rw [List.all_eq_true] at this
    exact this x hx
  have hgt : ∀ x ∈ (l.dropWhile fun x => lt x.f0 n).filter (fun x => decide (x.f0 ≠ n)), lt n x.f0 = true := by
    intro x hx
    obtain ⟨hx1, hx2⟩ := List.mem_filter.1 hx
    have hne : x.f0 ≠ n := by simpa using hx2
    cases hd : (l.dropWhile fun x => lt x.f0 n) with
    | nil => rw [hd] at hx1; cases hx1
    | cons y ys =>
      have hy : lt y.f0 n = false := by
        have := List.head?_dropWhile_not (fun x : S29 => lt x.f0 n) l
        rw [hd] at this
        simpa using this
      rw [hd] at hx1 hD
      have hge : lt n x.f0 = true ∨ x.f0 = n := by
        rcases List.mem_cons.1 hx1 with rfl | hx1
        · rcases lt_tot x.f0 n with q | q | q
          · rw [hy] at q; cases q
          · exact .inr q
          · exact .inl q
        · have h1 := (List.pairwise_cons.1 hD).1 x hx1
          rcases lt_tot y.f0 n with q | q | q
          · rw [hy] at q; cases q
          · rw [← q]; exact .inl h1
          · exact .inl (lt_tr q h1)
      exact hge.resolve_right hne
  refine ⟨List.pairwise_map.2 hA, ⟨fun x hx => ?_, List.pairwise_map.2 (hD.sublist (List.filter_sublist))⟩, fun x hx y hy => ?_⟩
  · obtain ⟨z, hz, rfl⟩ := List.mem_map.1 hx
    exact hgt z hz
  · obtain ⟨a, ha, rfl⟩ := List.mem_map.1 hx
    rcases List.mem_cons.1 hy with rfl | hy
    · exact hlt a ha
    · obtain ⟨z, hz, rfl⟩ := List.mem_map.1 hy
      exact lt_tr (hlt a ha) (hgt z hz)

theorem hset_loop (l : List S29) (hl : l.length ≤ 1000000) : ∀ i, i ≤ l.length → ∀ (out : List S29) (b : Bool), out.length ≤ 2 * i → Ev (fun k => caravanref5_HSet.l0 k l n v out b (i : Int)) (out ++ goH n v (l.drop i) b) := by
  refine up ?_ ?_
  · intro out b ho
    rw [List.drop_eq_nil_of_le (Nat.le_refl _)]
    cases b with
    | true => exact Ev.step (f := fun _ => some out) (fun k => by simp only [caravanref5_HSet.l0]; rw [if_neg (by omega), if_pos trivial]) (Ev.same (Ev.now out) (by simp [goH]))
    | false => exact Ev.step (f := fun _ => some (out ++ [⟨n, v⟩])) (fun k => by simp only [caravanref5_HSet.l0]; rw [if_neg (by omega), if_neg (by simp), if_pos (by omega)]) (Ev.same (Ev.now _) (by simp [goH]))
  · intro i hi ih out b ho
    have hrd := rd29_at l i hi
    rw [drop_at l i hi]
    have hgo : goH n v (l[i] :: l.drop (i + 1)) b = (if (!b && !lt (l[i]).f0 n) = true then [⟨n, v⟩] else []) ++ ((if (l[i]).f0 = n then [] else [l[i]]) ++ goH n v (l.drop (i + 1)) (b || !lt (l[i]).f0 n)) := rfl
    rw [hgo]
    -- the flag
    have hflag : Ev (fun k => caravanref5_HSet.j1 k l n v out b (i : Int) (!b && !lt (l[i]).f0 n)) (out ++ ((if (!b && !lt (l[i]).f0 n) = true then [⟨n, v⟩] else []) ++ ((if (l[i]).f0 = n then [] else [l[i]]) ++ goH n v (l.drop (i + 1)) (b || !lt (l[i]).f0 n)))) := by
      have hw : wrap64 ((i : Int) + 1) = ((i + 1 : Nat) : Int) := by rw [w64 (by omega) (by omega)]; rfl
      cases q : (!b && !lt (l[i]).f0 n)
      · have hb : (b || !lt (l[i]).f0 n) = b := by cases b <;> simp_all
        rw [hb]
        by_cases e : (l[i]).f0 = n
        · refine Ev.step (fun k => ?_) (Ev.same (ih out b (by omega)) (by simp [e]))
          simp only [caravanref5_HSet.j1]
          rw [if_neg (by simp), if_pos (by omega), if_pos (by omega), hrd, if_pos (by rw [e]), hw]
        · refine Ev.step (fun k => ?_) (Ev.same (ih (out ++ [l[i]]) b (by simp; omega)) (by simp [e]))
          simp only [caravanref5_HSet.j1]
          rw [if_neg (by simp), if_pos (by omega), if_pos (by omega), hrd, if_neg (fun h => e (toList_inj h)), if_pos (by omega), hw]
      · have hb : (b || !lt (l[i]).f0 n) = true := by cases b <;> simp_all
        rw [hb]
        by_cases e : (l[i]).f0 = n
        · refine Ev.step (fun k => ?_) (Ev.same (ih (out ++ [⟨n, v⟩]) true (by simp; omega)) (by simp [e]))
          simp only [caravanref5_HSet.j1]
          rw [if_pos trivial, if_pos (by omega), Option.bind_some, if_pos (by omega), if_pos (by omega), hrd, if_pos (by rw [e]), hw]
        · refine Ev.step (fun k => ?_) (Ev.same (ih (out ++ [⟨n, v⟩] ++ [l[i]]) true (by simp; omega)) (by simp [e]))
          simp only [caravanref5_HSet.j1]
          rw [if_pos trivial, if_pos (by omega), Option.bind_some, if_pos (by omega), if_pos (by omega), hrd, if_neg (fun h => e (toList_inj h)), if_pos (by simp; omega), hw]
    cases b with
    | true => exact Ev.step (fun k => by simp only [caravanref5_HSet.l0]; rw [if_pos (by omega), if_pos trivial]; rfl) hflag
    | false => exact Ev.step (fun k => by simp only [caravanref5_HSet.l0]; rw [if_pos (by omega), if_neg (by simp), if_pos (by omega), hrd]; rfl) hflag
theorem hset_ev (l : List S29) (hl : l.length ≤ 1000000) : Ev (fun k => caravanref5_HSet.f k l n v) (goH n v l false) := by
  have := hset_loop n v l hl 0 (by omega) [] false (by simp)
  exact Ev.fn (fun k => rfl) this
end

/-! a set with one more -/
section
variable (s : ByteArray)
def hasB (l : List ByteArray) : Bool := l.any fun x => decide (x = s)
theorem hasB_iff (l : List ByteArray) : hasB s l = true ↔ s ∈ l := by simp [hasB]
theorem shas_loop (l : List ByteArray) (hl : l.length ≤ 1000000) : ∀ i, i ≤ l.length → Ev (fun k => caravanref5_SHas.l0 k l s (i : Int)) (hasB s (l.drop i)) := by
  refine up ?_ ?_
  · refine Ev.step (f := fun _ => some false) (fun k => by simp only [caravanref5_SHas.l0]; rw [if_neg (by omega)]) (Ev.same (Ev.now _) (by rw [List.drop_eq_nil_of_le (Nat.le_refl _)]; rfl))
  · intro i hi ih
    rw [drop_at l i hi]
    by_cases e : l[i] = s
    · refine Ev.step (f := fun _ => some true) (fun k => ?_) (Ev.same (Ev.now _) ?_)
      · simp only [caravanref5_SHas.l0]; rw [if_pos (by omega), if_pos (by omega), rdOf_at _ l i hi, if_pos (by rw [e])]
      · symm; rw [hasB_iff, ← e]; exact List.mem_cons_self
    · refine Ev.step (fun k => ?_) (Ev.same ih ?_)
      · simp only [caravanref5_SHas.l0]; rw [if_pos (by omega), if_pos (by omega), rdOf_at _ l i hi, if_neg (fun h => e (toList_inj h)), w64 (by omega) (by omega)]; rfl
      · rw [Bool.eq_iff_iff, hasB_iff, hasB_iff, List.mem_cons]
        exact ⟨.inr, fun h => h.resolve_left (fun h => e h.symm)⟩
def sadd (l : List ByteArray) : List ByteArray := if hasB s l = true then l else (l.takeWhile fun x => lt x s) ++ (s :: l.dropWhile fun x => lt x s)
theorem sadd_loop (l : List ByteArray) (hl : l.length ≤ 1000000) : ∀ i, i ≤ l.length → Ev (fun k => caravanref5_SAdd.l0 k l s (i : Int)) (l.take i ++ (((l.drop i).takeWhile fun x => lt x s) ++ (s :: (l.drop i).dropWhile fun x => lt x s))) := by
  refine up ?_ ?_
  · refine Ev.step (f := fun _ => some (l ++ [s])) (fun k => ?_) (Ev.same (Ev.now _) (by rw [List.drop_eq_nil_of_le (Nat.le_refl _), List.take_of_length_le (Nat.le_refl _)]; rfl))
    simp only [caravanref5_SAdd.l0]
    rw [if_neg (by omega)]
    simp only [Option.bind_some]
    rw [if_pos (by omega), if_pos (by omega)]
    simp only [Int.toNat_natCast, List.take_of_length_le (Nat.le_refl _), List.drop_eq_nil_of_le (Nat.le_refl _), List.nil_append, List.append_nil, List.length_nil]
    rw [if_pos (by omega), if_pos (by omega), if_pos (by simp; omega)]
  · intro i hi ih
    by_cases q : lt l[i] s = true
    · refine Ev.step (fun k => ?_) (Ev.same ih ?_)
      · simp only [caravanref5_SAdd.l0]
        rw [if_pos (by omega), if_pos (by omega), rdOf_at _ l i hi, if_pos (show Op.bytesLess _ _ = true from q), w64 (by omega) (by omega)]; rfl
      · rw [drop_at l i hi, List.takeWhile_cons, if_pos q, List.dropWhile_cons, if_pos q, List.take_succ_eq_append_getElem hi, List.append_assoc]
        rfl
    · refine Ev.step (f := fun _ => some (l.take i ++ [s] ++ l.drop i)) (fun k => ?_) (Ev.same (Ev.now _) ?_)
      · simp only [caravanref5_SAdd.l0]
        rw [if_pos (by omega), if_pos (by omega), rdOf_at _ l i hi, if_neg (show ¬ Op.bytesLess _ _ = true from q)]
        simp only [Option.bind_some]
        have ht : (l.take i).length ≤ l.length := by rw [List.length_take]; omega
        rw [if_pos (by omega)]
        simp only [Int.toNat_natCast, List.nil_append, List.length_nil]
        rw [if_pos (by omega), if_pos (by omega), if_pos (by simp; omega)]
      · rw [drop_at l i hi, List.takeWhile_cons, if_neg q, List.dropWhile_cons, if_neg q]
        simp
theorem sadd_ev (l : List ByteArray) (hl : l.length ≤ 1000000) : Ev (fun k => caravanref5_SAdd.f k l s) (sadd s l) := by
  have h0 := shas_loop s l hl 0 (by omega)
  rw [List.drop_zero] at h0
  refine Ev.fn (f := fun k => (caravanref5_SHas.f k l s).bind fun t204 => _) (fun k => rfl) (Ev.seq (a := hasB s l) (Ev.fn (fun k => rfl) h0) ?_)
  unfold sadd
  by_cases h : hasB s l = true
  · rw [if_pos h]
    refine Ev.fn (f := fun _ => some l) (fun k => ?_) (Ev.now l)
    rw [if_pos h]
    simp only [Option.bind_some, List.length_nil, List.nil_append]
    rw [if_pos (by omega)]
  · rw [if_neg h]
    have h1 := sadd_loop s l hl 0 (by omega)
    rw [List.take_zero, List.drop_zero, List.nil_append] at h1
    refine Ev.fn (fun k => ?_) h1
    rw [if_neg h]; rfl
theorem sadd_mem (l : List ByteArray) : ∀ x, x ∈ sadd s l ↔ x ∈ l ∨ x = s := by
  intro x
  unfold sadd
  split
  · rename_i h; exact ⟨.inl, fun h' => h'.elim id (fun e => e ▸ (hasB_iff _ _).1 h)⟩
  · rw [List.mem_append, List.mem_cons]
    conv => rhs; rw [← List.takeWhile_append_dropWhile (p := fun x => lt x s) (l := l), List.mem_append]
    constructor
    · rintro (h | h | h)
      · exact .inl (.inl h)
      · exact .inr h
      · exact .inl (.inr h)
    · rintro ((h | h) | h)
      · exact .inl h
      · exact .inr (.inr h)
      · exact .inr (.inl h)
theorem sadd_len (l : List ByteArray) : (sadd s l).length ≤ l.length + 1 := by
  unfold sadd
  split
  · omega
  · have := congrArg List.length (List.takeWhile_append_dropWhile (p := fun x => lt x s) (l := l))
    rw [List.length_append] at this
    rw [List.length_append, List.length_cons]; omega
theorem sadd_pos (l : List ByteArray) : 0 < (sadd s l).length := by
  unfold sadd
  split
  · rename_i h; exact List.length_pos_of_mem ((hasB_iff _ _).1 h)
  · rw [List.length_append, List.length_cons]; omega
theorem sadd_rise (l : List ByteArray) (h : l.Pairwise (fun a b => lt a b = true)) : (sadd s l).Pairwise (fun a b => lt a b = true) := by
  unfold sadd
  split
  · exact h
  · rename_i hs
    have hA : (l.takeWhile fun x => lt x s).Pairwise (fun a b => lt a b = true) := h.sublist (List.takeWhile_sublist _)
    have hD : (l.dropWhile fun x => lt x s).Pairwise (fun a b => lt a b = true) := h.sublist (List.dropWhile_sublist _)
    have hlt : ∀ x ∈ (l.takeWhile fun x => lt x s), lt x s = true := fun x hx => by
      have := List.all_takeWhile (p := fun x : ByteArray => lt x s) (l := l)
      rw [List.all_eq_true] at this
      exact this x hx
    have hgt : ∀ x ∈ (l.dropWhile fun x => lt x s), lt s x = true := by
      intro x hx1
      have hne : x ≠ s := fun e => hs ((hasB_iff _ _).2 (e ▸ (List.dropWhile_sublist _).subset hx1))
      cases hd : (l.dropWhile fun x => lt x s) with
      | nil => rw [hd] at hx1; cases hx1
      | cons y ys =>
        have hy : lt y s = false := by
          have := List.head?_dropWhile_not (fun x : ByteArray => lt x s) l
          rw [hd] at this
          simpa using this
        rw [hd] at hx1 hD
        rcases List.mem_cons.1 hx1 with rfl | hx1
        · rcases lt_tot x s with q | q | q
          · rw [hy] at q; cases q
          · exact absurd q hne
          · exact q
        · have h1 := (List.pairwise_cons.1 hD).1 x hx1
          rcases lt_tot y s with q | q | q
          · rw [hy] at q; cases q
          · rw [← q]; exact h1
          · exact lt_tr q h1
    rw [List.pairwise_append, List.pairwise_cons]
    refine ⟨hA, ⟨hgt, hD⟩, fun x hx y hy => ?_⟩
    rcases List.mem_cons.1 hy with rfl | hy
    · exact hlt x hx
    · exact lt_tr (hlt x hx) (hgt y hy)
end
end Go.Proofs.Ytbmimcpllpgcaaa.Pure
