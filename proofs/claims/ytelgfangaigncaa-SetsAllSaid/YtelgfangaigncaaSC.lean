/- What 'those' hands back at each of the three questions that the program asks. Conditions: a bound on the lists' lengths. -/
import Derived.Test.YtelgfangaigncaaSB
namespace Go.Proofs.Ytelgfangaigncaa
open Go.RowKit Go.Shelf Go.Cav
attribute [local go_sem] Oper.semAt_some

theorem info9 : (Try.prog.info? 9).map (fun i => (i.zero, i.size, i.bytes)) = some (some (.string ⟨#[]⟩), 1, 16) := by kernel_rfl
theorem info_parts {o : Option TypeInfo} {z : Option Value} {a b : Nat} (h : o.map (fun i => (i.zero, i.size, i.bytes)) = some (z, a, b)) : ∃ i, o = some i ∧ i.zero = z ∧ i.size = a ∧ i.bytes = b := by
  cases o with
  | none => cases h
  | some i => simp only [Option.map_some, Option.some.injEq, Prod.mk.injEq] at h; exact ⟨i, rfl, h.1, h.2.1, h.2.2⟩
/-- the texts of which a question holds -/
def pickL (p : Int → Bool) (l : List (ByteArray × Int)) : List ByteArray := (l.filter fun x => p x.2).map (·.1)
theorem pickL_yes (p : Int → Bool) (l : List (ByteArray × Int)) (x : ByteArray × Int) (h : p x.2 = true) : pickL p (l ++ [x]) = pickL p l ++ [x.1] := by unfold pickL; rw [List.filter_append]; simp [h]
theorem pickL_no (p : Int → Bool) (l : List (ByteArray × Int)) (x : ByteArray × Int) (h : p x.2 = false) : pickL p (l ++ [x]) = pickL p l := by unfold pickL; rw [List.filter_append]; simp [h]
theorem pickL_len (p : Int → Bool) (l : List (ByteArray × Int)) : (pickL p l).length ≤ l.length := by unfold pickL; rw [List.length_map]; exact List.length_filter_le _ _
theorem twoL_len : ∀ a b : List ByteArray, (twoL a b).length ≤ a.length + b.length
  | [], [] => by simp [twoL]
  | a :: r, [] => by have := twoL_len r []; simp [twoL] at this ⊢; omega
  | [], b :: s => by have := twoL_len [] s; simp [twoL] at this ⊢; omega
  | a :: r, b :: s => by
    rw [twoL]
    split
    · have := twoL_len r (b :: s); simp at this ⊢; omega
    · split
      · have := twoL_len r s; simp at this ⊢; omega
      · have := twoL_len (a :: r) s; simp at this ⊢; omega
termination_by a b => a.length + b.length

theorem owns_lower {W : World} {base base' : Nat} {e : TypeId} {size : Nat} {v : Value} {n : Nat} {xs : List Value} (h : W.ownsRow base e size v n xs) (hb : base' ≤ base) : W.ownsRow base' e size v n xs := by
  refine ⟨h.1, ?_⟩
  rcases h.2 with h | ⟨g, cap, cur, h1, h2, h3⟩
  · exact .inl h
  · exact .inr ⟨g, cap, cur, h1, Nat.le_trans hb h2, h3⟩
theorem c22 (who : Int) (w : World) : Calls Try.prog 22 #[.int .i64 who] w fun e w' => e = .returned (.bool true) ∧ w' = w := by
  go_enter Try.func22, Try.ntmps22
  go_wp2
  go_ret
  exact ⟨rfl, rfl⟩
theorem c24 (who : Int) (w : World) : Calls Try.prog 24 #[.int .i64 who] w fun e w' => e = .returned (.bool (who == 3)) ∧ w' = w := by
  go_enter Try.func24, Try.ntmps24
  go_wp2
  go_ret
  exact ⟨rfl, rfl⟩
theorem c25 (who : Int) (w : World) : Calls Try.prog 25 #[.int .i64 who] w fun e w' => e = .returned (.bool (who == 1)) ∧ w' = w := by
  go_enter Try.func25, Try.ntmps25
  go_wp2
  go_ret
  exact ⟨rfl, rfl⟩
theorem two_seq (T : Nat → Prop) (Ba Bb : Nat) (hab : Ba ≠ Bb) (hTa : ¬ T Ba) (hTb : ¬ T Bb) (n : Nat) (hn : 1 ≤ n) (as0 bs0 : List ByteArray) (hm : as0.length + bs0.length ≤ 1000000000000) (w : World)
    (ha : Holds w Ba (okk T Ba Bb) as0) (hb : Holds w Bb (okk T Ba Bb) bs0) :
    SeqT Fence.wide n Try.prog 35 #[.pointer (some ⟨Ba, 0, none⟩), .pointer (some ⟨Bb, 0, none⟩)] (fun x : ByteArray × Int => #[.string x.1, .int .i64 x.2]) (Stir T) (Own2 Ba Bb)
      (fun xs _ => xs = twoL as0 bs0) (fun pre _ => pre <+: twoL as0 bs0) (twoL as0 bs0).length w := by
  intro l J Jx W hW hJ _ hY h0
  have hs : Stir (fun _ => False) w W := Stir.of_below hW _
  have kept : ∀ (B : Nat) (xs : List ByteArray), Holds w B (okk T Ba Bb) xs → Holds W B (okk T Ba Bb) xs := by
    rintro B xs ⟨v, h1, h2⟩
    exact ⟨v, boxed_stir h1 hs (fun e => e), h2.touch hs (fun _ _ e => e)⟩
  exact two_in T Ba Bb hab hTa hTb n hn l as0 bs0 J Jx W hJ hm hY (kept _ _ ha) (kept _ _ hb) h0

set_option maxRecDepth 100000 in
set_option maxHeartbeats 2000000 in
theorem those22 (as0 bs0 : List ByteArray) (va vb : Value) (w : World) (hm : as0.length + bs0.length ≤ 1000000000000)
    (ha : LReads w (fun k => k < w.heap.size) va as0) (hb : LReads w (fun k => k < w.heap.size) vb bs0) :
    Calls Try.prog 21 #[va, vb, .func (.func 22) #[] #[]] w fun e w' => ∃ v, e = .returned v ∧ w'.ownsRow w.heap.size 9 1 v (pickL (fun _ => true) (twoL as0 bs0)).length ((pickL (fun _ => true) (twoL as0 bs0)).map .string) ∧ Below w.heap.size w w' := by
  obtain ⟨i0, hi, hz0, hz1, hz2⟩ := info_parts info9
  obtain ⟨A, c, rfl, rA⟩ := ha
  obtain ⟨B, d, rfl, rB⟩ := hb
  refine (callsIn_wide (n := 6)).1 ?_
  have h1 : 1 ≤ 6 := by omega
  refine callsIn_of_wp_marks Try.func21 rfl trivial ?_ rfl
  simp only [Try.ntmps21, List.size_toArray, List.length_cons, List.length_nil, Nat.reduceAdd, Nat.reduceSub, Array.replicate_succ, Array.replicate_zero, List.push_toArray, List.append_toArray, List.nil_append, List.cons_append]
  have bI := Boxed.new w 41 (.func (.func 22) #[] #[])
  have bS := Boxed.new (w.alloc (.cells #[.func (.func 22) #[] #[]] 41)) 24 (.slice none 0 0)
  have htw := fun W => two_any A B as0.length c bs0.length d W
  gi_wp2_with fail
  refine ⟨trivial, (callsIn_wide.2 (htw _)).mono ?_⟩
  rintro e w1 ⟨rfl, hw1⟩
  clear htw
  have hsz1 : w1.heap.size = w.heap.size + 4 := by rw [hw1]; simp
  have hb1 : Below w.heap.size w w1 := by rw [hw1]; exact ((((Below.refl _ w).alloc (Nat.le_refl _) _).alloc (by simp) _).alloc (by simp; omega) _).alloc (by simp; omega) _
  have bI1 : Boxed w1 w.heap.size 41 (.func (.func 22) #[] #[]) := by rw [hw1]; exact ((bI.alloc _).alloc _).alloc _
  have bS1 : Boxed w1 (w.heap.size + 1) 24 (.slice none 0 0) := by rw [World.size_alloc] at bS; rw [hw1]; exact (bS.alloc _).alloc _
  have bA1 : Boxed w1 (w.heap.size + 1 + 1) 24 (.slice A as0.length c) := by
    rw [hw1]
    have := Boxed.new ((w.alloc (.cells #[.func (.func 22) #[] #[]] 41)).alloc (.cells #[.slice none 0 0] 24)) 24 (.slice A as0.length c)
    rw [World.size_alloc, World.size_alloc] at this; exact this.alloc _
  have bB1 : Boxed w1 (w.heap.size + 1 + 1 + 1) 24 (.slice B bs0.length d) := by
    rw [hw1]
    have := Boxed.new (((w.alloc (.cells #[.func (.func 22) #[] #[]] 41)).alloc (.cells #[.slice none 0 0] 24)).alloc (.cells #[.slice A as0.length c] 24)) 24 (.slice B bs0.length d)
    rw [World.size_alloc, World.size_alloc, World.size_alloc] at this; exact this
  clear hw1 bI bS
  obtain ⟨T, hT⟩ : ∃ T : Nat → Prop, T = (fun k => k = w.heap.size + 1 ∨ w.heap.size + 4 ≤ k) := ⟨_, rfl⟩
  obtain ⟨T2, hT2⟩ : ∃ T2 : Nat → Prop, T2 = (fun k => w.heap.size + 1 ≤ k) := ⟨_, rfl⟩
  have hTT : ∀ k, T k → T2 k := by rw [hT, hT2]; intro k hk; omega
  have hst : Stir (fun _ => False) w w1 := Stir.of_below hb1 _
  have lr : ∀ v xs, LReads w (fun k => k < w.heap.size) v xs → LReads w1 (okk T (w.heap.size + 1 + 1) (w.heap.size + 1 + 1 + 1)) v xs := by
    rintro v xs ⟨A', c', e1, e2, e3⟩
    refine ⟨A', c', e1, e2, fun hx => ?_⟩
    obtain ⟨ad, e4, e5, e6⟩ := e3 hx
    exact ⟨ad, e4, ⟨by rw [hT]; omega, by omega, by omega⟩, fun j x hj => hst.cell (e6 j x hj) (fun e => e)⟩
  have lA := lr _ _ ⟨A, c, rfl, rA⟩
  have lB := lr _ _ ⟨B, d, rfl, rB⟩
  have hseq := two_seq T (w.heap.size + 1 + 1) (w.heap.size + 1 + 1 + 1) (by omega) (by rw [hT]; omega) (by rw [hT]; omega) 5 (by omega) as0 bs0 hm w1 ⟨_, bA1, lA⟩ ⟨_, bB1, lB⟩
  have hlt2 := twoL_len as0 bs0
  clear lr lA lB rA rB bA1 bB1 hst
  have hO : ∀ A B, Own2 (w.heap.size + 1 + 1) (w.heap.size + 1 + 1 + 1) A B → Stir (fun k => k = w.heap.size + 1 + 1 ∨ k = w.heap.size + 1 + 1 + 1) A B := fun A B h => h.1
  gi_wp2_with fail
  refine wpIn_rangeFunc_T rfl h1 (gf := 35) (lb := #[.pointer (some ⟨w.heap.size + 1 + 1, 0, none⟩), .pointer (some ⟨w.heap.size + 1 + 1 + 1, 0, none⟩)]) rfl trivial (enters_of Try.func35 (by kernel_rfl) rfl)
    hseq (own2_plain _ _) stirK_t (stirK_b (by rw [hT]; intro k hk; omega)) (Below.refl _ _) (fun _ => rfl)
    (fun pre W => (∃ v, Boxed W (w.heap.size + 1) 24 v ∧ W.ownsRow (w.heap.size + 4) 9 1 v (pickL (fun _ => true) pre).length ((pickL (fun _ => true) pre).map .string) ∧ True) ∧ Boxed W w.heap.size 41 (.func (.func 22) #[] #[]) ∧ Stir T2 w1 W)
    (fun _ _ _ => False)
    (OwnFrom.and (Own.from (holdsRow_own (w.heap.size + 4) (w.heap.size + 1) 24 9 1 (fun pre : List (ByteArray × Int) => (pickL (fun _ => true) pre).length) (fun pre => (pickL (fun _ => true) pre).map .string) (fun _ _ => True)) _) (OwnFrom.and (Own.from (boxed_own _ _ _) _) (ownFrom_stir w1 (by rw [hT2]; intro k hk; omega))))
    (fun _ => ownFrom_no) ?abides (fun _ _ _ _ h _ => h)
    ⟨⟨_, bS1, World.ownsRow_nil _ _ _ _, trivial⟩, bI1, Stir.refl _ _⟩
    (fun x => { tmps := #[.slice A as0.length c, .slice B bs0.length d, .func (.func 22) #[] #[], undef, undef, .pointer (some ⟨w.heap.size, 0, none⟩), .slice none 0 0, .pointer (some ⟨w.heap.size + 1, 0, none⟩), .string x.1, .int .i64 x.2, .slice A as0.length c, .slice B bs0.length d, .func (.func 35) #[] #[.pointer (some ⟨w.heap.size + 1 + 1, 0, none⟩), .pointer (some ⟨w.heap.size + 1 + 1 + 1, 0, none⟩)], .string x.1, .int .i64 x.2, undef, undef, undef, undef, undef, undef, undef, undef], defers := [] }) ?assign ?body ?done ?stop
  case abides =>
    rintro s X Y ⟨⟨v, h1, h2, _⟩, h3, h4⟩ hr
    have hs := hO _ _ hr
    refine ⟨⟨v, boxed_stir h1 hs (by omega), hs.owns h2 (fun k hk => ?_), trivial⟩, boxed_stir h3 hs (by omega), h4.trans hs (fun i _ e => by rw [hT2]; omega)⟩
    have := (h2.lt k hk).1
    omega
  case assign =>
    intro l x W K hK
    gi_wp2
    exact hK
  case body =>
    rintro l pre x W ⟨⟨v, hv, hrow, _⟩, hI, hS⟩ hlen
    have hpl := pickL_len (fun _ => true) pre
    have hsz : w1.heap.size ≤ W.heap.size := hS.size
    have hcI := hI.cell
    have hc := hv.cell
    have hv0 := hv.alloc (.cells #[.string x.1] 9)
    have hf0 := hv0.frozen
    have hrow0 : (W.alloc (.cells #[.string x.1] 9)).ownsRow (w.heap.size + 4) 9 1 v (pickL (fun _ => true) pre).length ((pickL (fun _ => true) pre).map .string) := hrow.kept (World.grownBy_alloc W _ none) (by cases h : v.ownBlock with | none => exact .inl rfl | some _ => exact .inr (by simp))
    have hS0 : Stir T W (W.alloc (.cells #[.string x.1] 9)) := (Stir.refl T W).alloc _
    have hK0 : KeepsOthers W (W.alloc (.cells #[.string x.1] 9)) := KeepsOthers.of_grownBy (World.grownBy_alloc W _ none) (fun j o e _ => by cases e)
    have hx : ∀ j u, ([.string x.1] : List Value)[j]? = some u → (W.alloc (.cells #[.string x.1] 9)).cell? ((⟨W.heap.size, 0, none⟩ : Addr).add j) = some u := by
      intro j u hj
      match j, hj with
      | 0, hj => cases hj; show (W.alloc (.cells #[.string x.1] 9)).cell? ⟨W.heap.size, 0, none⟩ = _; unfold World.cell?; rw [heap_alloc_new]; rfl
      | j + 1, hj => simp at hj
    have hTb : ∀ i, w.heap.size + 4 ≤ i → T i := by intro k hk; rw [hT]; exact .inr hk
    have hTB : T (w.heap.size + 1) := by rw [hT]; exact .inl rfl
    have HI := Lib.hid hI
    clear hI
    gi_wp2_with fail
    refine ⟨trivial, ((callsIn_wide.2 (c22 x.2 _)).inRound l).mono ?_⟩
    rintro e w3 ⟨rfl, rfl⟩
    gi_wp2_with (gi_at_builtin; go_loud (refine wpListIn_append_own (w3.alloc (.cells #[.string x.1] 9)) rfl (.tmp 18) (.tmp 20) 24 rfl (w.heap.size + 4) 9 i0 (.string ⟨#[]⟩) 1 16 Try.underlying24 hi hz0 hz1 hz2 rfl (by decide) _ _ _ rfl hrow0 ⟨w3.heap.size, 0, none⟩ 1 1 [.string x.1] rfl rfl hx (by intro u hu; rw [List.mem_singleton.1 hu]; rfl) (by unfold maxLen; omega) (by omega) (by simp; omega) ?_))
    intro v' w4 hown hgrow _
    obtain ⟨b1, b2, b3, b4, b5⟩ := Cav.Boxed.app hv (by decide) hrow hK0 hS0 hv0 hrow0 hTB hTb hown hgrow
    obtain ⟨a3, c3, rfl⟩ := owns_slice hown
    have m1 := b1.cell
    have m2 := b1.frozen
    have hI5 := b5.block _ HI.out.lt (by rw [hT]; omega)
    have HI5 := Lib.hid hI5
    clear hown hgrow hrow b1 hc hv hv0 hrow0 hS0 hK0 hx hf0 hI5 hcI
    gi_wp2
    refine ⟨b4.from _, b5, ⟨⟨_, b2, ?_, trivial⟩, HI5.out.trans HI.out, hS.trans b5 (fun i _ e => hTT i e)⟩⟩
    rw [pickL_yes _ _ _ rfl]
    simpa using b3
  case done =>
    rintro D ys W W0 hD rfl hWe ⟨⟨v, hv, hrow, _⟩, hI, hS⟩ hK
    have hc := hv.cell
    have hII := Lib.hid hI
    clear hI hWe
    gi_wp2
    refine ⟨by simp, .inl ⟨_, _, rfl, run_takeDeferred hK, ?_⟩⟩
    refine ⟨_, results_tmp rfl _ _ _, v, rfl, ?_, ?_⟩
    · refine owns_lower (hrow.kept (grownBy_putObj' _ D _) ?_) (by omega)
      rcases hrow.2 with ⟨rfl, _⟩ | ⟨g, cap, cur, rfl, _, hgb, _⟩
      · exact .inl rfl
      · refine .inr fun e' => ?_
        have e2 : g = D := by simpa [Value.ownBlock] using e'
        subst e2; rw [hK] at hgb; cases hgb
    · exact hb1.trans ((hS.trans (stirK_b (T := T2) (w := w1) (by rw [hT2]; intro k hk; omega) W D _ (.deferred none) (by omega) hK rfl rfl) (fun _ _ e => e)).below (by omega) (by rw [hT2]; intro k h; omega))
  case stop =>
    rintro D c pre W _ _ _ h _
    exact h.elim

set_option maxRecDepth 100000 in
set_option maxHeartbeats 2000000 in
theorem those24 (as0 bs0 : List ByteArray) (va vb : Value) (w : World) (hm : as0.length + bs0.length ≤ 1000000000000)
    (ha : LReads w (fun k => k < w.heap.size) va as0) (hb : LReads w (fun k => k < w.heap.size) vb bs0) :
    Calls Try.prog 21 #[va, vb, .func (.func 24) #[] #[]] w fun e w' => ∃ v, e = .returned v ∧ w'.ownsRow w.heap.size 9 1 v (pickL (fun x => x == 3) (twoL as0 bs0)).length ((pickL (fun x => x == 3) (twoL as0 bs0)).map .string) ∧ Below w.heap.size w w' := by
  obtain ⟨i0, hi, hz0, hz1, hz2⟩ := info_parts info9
  obtain ⟨A, c, rfl, rA⟩ := ha
  obtain ⟨B, d, rfl, rB⟩ := hb
  refine (callsIn_wide (n := 6)).1 ?_
  have h1 : 1 ≤ 6 := by omega
  refine callsIn_of_wp_marks Try.func21 rfl trivial ?_ rfl
  simp only [Try.ntmps21, List.size_toArray, List.length_cons, List.length_nil, Nat.reduceAdd, Nat.reduceSub, Array.replicate_succ, Array.replicate_zero, List.push_toArray, List.append_toArray, List.nil_append, List.cons_append]
  have bI := Boxed.new w 41 (.func (.func 24) #[] #[])
  have bS := Boxed.new (w.alloc (.cells #[.func (.func 24) #[] #[]] 41)) 24 (.slice none 0 0)
  have htw := fun W => two_any A B as0.length c bs0.length d W
  gi_wp2_with fail
  refine ⟨trivial, (callsIn_wide.2 (htw _)).mono ?_⟩
  rintro e w1 ⟨rfl, hw1⟩
  clear htw
  have hsz1 : w1.heap.size = w.heap.size + 4 := by rw [hw1]; simp
  have hb1 : Below w.heap.size w w1 := by rw [hw1]; exact ((((Below.refl _ w).alloc (Nat.le_refl _) _).alloc (by simp) _).alloc (by simp; omega) _).alloc (by simp; omega) _
  have bI1 : Boxed w1 w.heap.size 41 (.func (.func 24) #[] #[]) := by rw [hw1]; exact ((bI.alloc _).alloc _).alloc _
  have bS1 : Boxed w1 (w.heap.size + 1) 24 (.slice none 0 0) := by rw [World.size_alloc] at bS; rw [hw1]; exact (bS.alloc _).alloc _
  have bA1 : Boxed w1 (w.heap.size + 1 + 1) 24 (.slice A as0.length c) := by
    rw [hw1]
    have := Boxed.new ((w.alloc (.cells #[.func (.func 24) #[] #[]] 41)).alloc (.cells #[.slice none 0 0] 24)) 24 (.slice A as0.length c)
    rw [World.size_alloc, World.size_alloc] at this; exact this.alloc _
  have bB1 : Boxed w1 (w.heap.size + 1 + 1 + 1) 24 (.slice B bs0.length d) := by
    rw [hw1]
    have := Boxed.new (((w.alloc (.cells #[.func (.func 24) #[] #[]] 41)).alloc (.cells #[.slice none 0 0] 24)).alloc (.cells #[.slice A as0.length c] 24)) 24 (.slice B bs0.length d)
    rw [World.size_alloc, World.size_alloc, World.size_alloc] at this; exact this
  clear hw1 bI bS
  obtain ⟨T, hT⟩ : ∃ T : Nat → Prop, T = (fun k => k = w.heap.size + 1 ∨ w.heap.size + 4 ≤ k) := ⟨_, rfl⟩
  obtain ⟨T2, hT2⟩ : ∃ T2 : Nat → Prop, T2 = (fun k => w.heap.size + 1 ≤ k) := ⟨_, rfl⟩
  have hTT : ∀ k, T k → T2 k := by rw [hT, hT2]; intro k hk; omega
  have hst : Stir (fun _ => False) w w1 := Stir.of_below hb1 _
  have lr : ∀ v xs, LReads w (fun k => k < w.heap.size) v xs → LReads w1 (okk T (w.heap.size + 1 + 1) (w.heap.size + 1 + 1 + 1)) v xs := by
    rintro v xs ⟨A', c', e1, e2, e3⟩
    refine ⟨A', c', e1, e2, fun hx => ?_⟩
    obtain ⟨ad, e4, e5, e6⟩ := e3 hx
    exact ⟨ad, e4, ⟨by rw [hT]; omega, by omega, by omega⟩, fun j x hj => hst.cell (e6 j x hj) (fun e => e)⟩
  have lA := lr _ _ ⟨A, c, rfl, rA⟩
  have lB := lr _ _ ⟨B, d, rfl, rB⟩
  have hseq := two_seq T (w.heap.size + 1 + 1) (w.heap.size + 1 + 1 + 1) (by omega) (by rw [hT]; omega) (by rw [hT]; omega) 5 (by omega) as0 bs0 hm w1 ⟨_, bA1, lA⟩ ⟨_, bB1, lB⟩
  have hlt2 := twoL_len as0 bs0
  clear lr lA lB rA rB bA1 bB1 hst
  have hO : ∀ A B, Own2 (w.heap.size + 1 + 1) (w.heap.size + 1 + 1 + 1) A B → Stir (fun k => k = w.heap.size + 1 + 1 ∨ k = w.heap.size + 1 + 1 + 1) A B := fun A B h => h.1
  gi_wp2_with fail
  refine wpIn_rangeFunc_T rfl h1 (gf := 35) (lb := #[.pointer (some ⟨w.heap.size + 1 + 1, 0, none⟩), .pointer (some ⟨w.heap.size + 1 + 1 + 1, 0, none⟩)]) rfl trivial (enters_of Try.func35 (by kernel_rfl) rfl)
    hseq (own2_plain _ _) stirK_t (stirK_b (by rw [hT]; intro k hk; omega)) (Below.refl _ _) (fun _ => rfl)
    (fun pre W => (∃ v, Boxed W (w.heap.size + 1) 24 v ∧ W.ownsRow (w.heap.size + 4) 9 1 v (pickL (fun x => x == 3) pre).length ((pickL (fun x => x == 3) pre).map .string) ∧ True) ∧ Boxed W w.heap.size 41 (.func (.func 24) #[] #[]) ∧ Stir T2 w1 W)
    (fun _ _ _ => False)
    (OwnFrom.and (Own.from (holdsRow_own (w.heap.size + 4) (w.heap.size + 1) 24 9 1 (fun pre : List (ByteArray × Int) => (pickL (fun x => x == 3) pre).length) (fun pre => (pickL (fun x => x == 3) pre).map .string) (fun _ _ => True)) _) (OwnFrom.and (Own.from (boxed_own _ _ _) _) (ownFrom_stir w1 (by rw [hT2]; intro k hk; omega))))
    (fun _ => ownFrom_no) ?abides (fun _ _ _ _ h _ => h)
    ⟨⟨_, bS1, World.ownsRow_nil _ _ _ _, trivial⟩, bI1, Stir.refl _ _⟩
    (fun x => { tmps := #[.slice A as0.length c, .slice B bs0.length d, .func (.func 24) #[] #[], undef, undef, .pointer (some ⟨w.heap.size, 0, none⟩), .slice none 0 0, .pointer (some ⟨w.heap.size + 1, 0, none⟩), .string x.1, .int .i64 x.2, .slice A as0.length c, .slice B bs0.length d, .func (.func 35) #[] #[.pointer (some ⟨w.heap.size + 1 + 1, 0, none⟩), .pointer (some ⟨w.heap.size + 1 + 1 + 1, 0, none⟩)], .string x.1, .int .i64 x.2, undef, undef, undef, undef, undef, undef, undef, undef], defers := [] }) ?assign ?body ?done ?stop
  case abides =>
    rintro s X Y ⟨⟨v, h1, h2, _⟩, h3, h4⟩ hr
    have hs := hO _ _ hr
    refine ⟨⟨v, boxed_stir h1 hs (by omega), hs.owns h2 (fun k hk => ?_), trivial⟩, boxed_stir h3 hs (by omega), h4.trans hs (fun i _ e => by rw [hT2]; omega)⟩
    have := (h2.lt k hk).1
    omega
  case assign =>
    intro l x W K hK
    gi_wp2
    exact hK
  case body =>
    rintro l pre x W ⟨⟨v, hv, hrow, _⟩, hI, hS⟩ hlen
    have hpl := pickL_len (fun x => x == 3) pre
    have hsz : w1.heap.size ≤ W.heap.size := hS.size
    have hcI := hI.cell
    have hc := hv.cell
    cases q : (x.2 == 3)
    · skip
      have HI := Lib.hid hI
      clear hI
      gi_wp2_with fail
      refine ⟨trivial, ((callsIn_wide.2 (c24 x.2 _)).inRound l).mono ?_⟩
      rintro e w3 ⟨rfl, rfl⟩
      gi_wp2
      refine ⟨KeepsFrom.refl _ _, Stir.refl _ _, ⟨⟨_, hv, ?_, trivial⟩, HI.out, hS⟩⟩
      rw [pickL_no _ _ _ q]
      exact hrow
    · skip
      have hv0 := hv.alloc (.cells #[.string x.1] 9)
      have hf0 := hv0.frozen
      have hrow0 : (W.alloc (.cells #[.string x.1] 9)).ownsRow (w.heap.size + 4) 9 1 v (pickL (fun x => x == 3) pre).length ((pickL (fun x => x == 3) pre).map .string) := hrow.kept (World.grownBy_alloc W _ none) (by cases h : v.ownBlock with | none => exact .inl rfl | some _ => exact .inr (by simp))
      have hS0 : Stir T W (W.alloc (.cells #[.string x.1] 9)) := (Stir.refl T W).alloc _
      have hK0 : KeepsOthers W (W.alloc (.cells #[.string x.1] 9)) := KeepsOthers.of_grownBy (World.grownBy_alloc W _ none) (fun j o e _ => by cases e)
      have hx : ∀ j u, ([.string x.1] : List Value)[j]? = some u → (W.alloc (.cells #[.string x.1] 9)).cell? ((⟨W.heap.size, 0, none⟩ : Addr).add j) = some u := by
        intro j u hj
        match j, hj with
        | 0, hj => cases hj; show (W.alloc (.cells #[.string x.1] 9)).cell? ⟨W.heap.size, 0, none⟩ = _; unfold World.cell?; rw [heap_alloc_new]; rfl
        | j + 1, hj => simp at hj
      have hTb : ∀ i, w.heap.size + 4 ≤ i → T i := by intro k hk; rw [hT]; exact .inr hk
      have hTB : T (w.heap.size + 1) := by rw [hT]; exact .inl rfl
      have HI := Lib.hid hI
      clear hI
      gi_wp2_with fail
      refine ⟨trivial, ((callsIn_wide.2 (c24 x.2 _)).inRound l).mono ?_⟩
      rintro e w3 ⟨rfl, rfl⟩
      gi_wp2_with (gi_at_builtin; go_loud (refine wpListIn_append_own (w3.alloc (.cells #[.string x.1] 9)) rfl (.tmp 18) (.tmp 20) 24 rfl (w.heap.size + 4) 9 i0 (.string ⟨#[]⟩) 1 16 Try.underlying24 hi hz0 hz1 hz2 rfl (by decide) _ _ _ rfl hrow0 ⟨w3.heap.size, 0, none⟩ 1 1 [.string x.1] rfl rfl hx (by intro u hu; rw [List.mem_singleton.1 hu]; rfl) (by unfold maxLen; omega) (by omega) (by simp; omega) ?_))
      intro v' w4 hown hgrow _
      obtain ⟨b1, b2, b3, b4, b5⟩ := Cav.Boxed.app hv (by decide) hrow hK0 hS0 hv0 hrow0 hTB hTb hown hgrow
      obtain ⟨a3, c3, rfl⟩ := owns_slice hown
      have m1 := b1.cell
      have m2 := b1.frozen
      have hI5 := b5.block _ HI.out.lt (by rw [hT]; omega)
      have HI5 := Lib.hid hI5
      clear hown hgrow hrow b1 hc hv hv0 hrow0 hS0 hK0 hx hf0 hI5 hcI
      gi_wp2
      refine ⟨b4.from _, b5, ⟨⟨_, b2, ?_, trivial⟩, HI5.out.trans HI.out, hS.trans b5 (fun i _ e => hTT i e)⟩⟩
      rw [pickL_yes _ _ _ q]
      simpa using b3
  case done =>
    rintro D ys W W0 hD rfl hWe ⟨⟨v, hv, hrow, _⟩, hI, hS⟩ hK
    have hc := hv.cell
    have hII := Lib.hid hI
    clear hI hWe
    gi_wp2
    refine ⟨by simp, .inl ⟨_, _, rfl, run_takeDeferred hK, ?_⟩⟩
    refine ⟨_, results_tmp rfl _ _ _, v, rfl, ?_, ?_⟩
    · refine owns_lower (hrow.kept (grownBy_putObj' _ D _) ?_) (by omega)
      rcases hrow.2 with ⟨rfl, _⟩ | ⟨g, cap, cur, rfl, _, hgb, _⟩
      · exact .inl rfl
      · refine .inr fun e' => ?_
        have e2 : g = D := by simpa [Value.ownBlock] using e'
        subst e2; rw [hK] at hgb; cases hgb
    · exact hb1.trans ((hS.trans (stirK_b (T := T2) (w := w1) (by rw [hT2]; intro k hk; omega) W D _ (.deferred none) (by omega) hK rfl rfl) (fun _ _ e => e)).below (by omega) (by rw [hT2]; intro k h; omega))
  case stop =>
    rintro D c pre W _ _ _ h _
    exact h.elim

set_option maxRecDepth 100000 in
set_option maxHeartbeats 2000000 in
theorem those25 (as0 bs0 : List ByteArray) (va vb : Value) (w : World) (hm : as0.length + bs0.length ≤ 1000000000000)
    (ha : LReads w (fun k => k < w.heap.size) va as0) (hb : LReads w (fun k => k < w.heap.size) vb bs0) :
    Calls Try.prog 21 #[va, vb, .func (.func 25) #[] #[]] w fun e w' => ∃ v, e = .returned v ∧ w'.ownsRow w.heap.size 9 1 v (pickL (fun x => x == 1) (twoL as0 bs0)).length ((pickL (fun x => x == 1) (twoL as0 bs0)).map .string) ∧ Below w.heap.size w w' := by
  obtain ⟨i0, hi, hz0, hz1, hz2⟩ := info_parts info9
  obtain ⟨A, c, rfl, rA⟩ := ha
  obtain ⟨B, d, rfl, rB⟩ := hb
  refine (callsIn_wide (n := 6)).1 ?_
  have h1 : 1 ≤ 6 := by omega
  refine callsIn_of_wp_marks Try.func21 rfl trivial ?_ rfl
  simp only [Try.ntmps21, List.size_toArray, List.length_cons, List.length_nil, Nat.reduceAdd, Nat.reduceSub, Array.replicate_succ, Array.replicate_zero, List.push_toArray, List.append_toArray, List.nil_append, List.cons_append]
  have bI := Boxed.new w 41 (.func (.func 25) #[] #[])
  have bS := Boxed.new (w.alloc (.cells #[.func (.func 25) #[] #[]] 41)) 24 (.slice none 0 0)
  have htw := fun W => two_any A B as0.length c bs0.length d W
  gi_wp2_with fail
  refine ⟨trivial, (callsIn_wide.2 (htw _)).mono ?_⟩
  rintro e w1 ⟨rfl, hw1⟩
  clear htw
  have hsz1 : w1.heap.size = w.heap.size + 4 := by rw [hw1]; simp
  have hb1 : Below w.heap.size w w1 := by rw [hw1]; exact ((((Below.refl _ w).alloc (Nat.le_refl _) _).alloc (by simp) _).alloc (by simp; omega) _).alloc (by simp; omega) _
  have bI1 : Boxed w1 w.heap.size 41 (.func (.func 25) #[] #[]) := by rw [hw1]; exact ((bI.alloc _).alloc _).alloc _
  have bS1 : Boxed w1 (w.heap.size + 1) 24 (.slice none 0 0) := by rw [World.size_alloc] at bS; rw [hw1]; exact (bS.alloc _).alloc _
  have bA1 : Boxed w1 (w.heap.size + 1 + 1) 24 (.slice A as0.length c) := by
    rw [hw1]
    have := Boxed.new ((w.alloc (.cells #[.func (.func 25) #[] #[]] 41)).alloc (.cells #[.slice none 0 0] 24)) 24 (.slice A as0.length c)
    rw [World.size_alloc, World.size_alloc] at this; exact this.alloc _
  have bB1 : Boxed w1 (w.heap.size + 1 + 1 + 1) 24 (.slice B bs0.length d) := by
    rw [hw1]
    have := Boxed.new (((w.alloc (.cells #[.func (.func 25) #[] #[]] 41)).alloc (.cells #[.slice none 0 0] 24)).alloc (.cells #[.slice A as0.length c] 24)) 24 (.slice B bs0.length d)
    rw [World.size_alloc, World.size_alloc, World.size_alloc] at this; exact this
  clear hw1 bI bS
  obtain ⟨T, hT⟩ : ∃ T : Nat → Prop, T = (fun k => k = w.heap.size + 1 ∨ w.heap.size + 4 ≤ k) := ⟨_, rfl⟩
  obtain ⟨T2, hT2⟩ : ∃ T2 : Nat → Prop, T2 = (fun k => w.heap.size + 1 ≤ k) := ⟨_, rfl⟩
  have hTT : ∀ k, T k → T2 k := by rw [hT, hT2]; intro k hk; omega
  have hst : Stir (fun _ => False) w w1 := Stir.of_below hb1 _
  have lr : ∀ v xs, LReads w (fun k => k < w.heap.size) v xs → LReads w1 (okk T (w.heap.size + 1 + 1) (w.heap.size + 1 + 1 + 1)) v xs := by
    rintro v xs ⟨A', c', e1, e2, e3⟩
    refine ⟨A', c', e1, e2, fun hx => ?_⟩
    obtain ⟨ad, e4, e5, e6⟩ := e3 hx
    exact ⟨ad, e4, ⟨by rw [hT]; omega, by omega, by omega⟩, fun j x hj => hst.cell (e6 j x hj) (fun e => e)⟩
  have lA := lr _ _ ⟨A, c, rfl, rA⟩
  have lB := lr _ _ ⟨B, d, rfl, rB⟩
  have hseq := two_seq T (w.heap.size + 1 + 1) (w.heap.size + 1 + 1 + 1) (by omega) (by rw [hT]; omega) (by rw [hT]; omega) 5 (by omega) as0 bs0 hm w1 ⟨_, bA1, lA⟩ ⟨_, bB1, lB⟩
  have hlt2 := twoL_len as0 bs0
  clear lr lA lB rA rB bA1 bB1 hst
  have hO : ∀ A B, Own2 (w.heap.size + 1 + 1) (w.heap.size + 1 + 1 + 1) A B → Stir (fun k => k = w.heap.size + 1 + 1 ∨ k = w.heap.size + 1 + 1 + 1) A B := fun A B h => h.1
  gi_wp2_with fail
  refine wpIn_rangeFunc_T rfl h1 (gf := 35) (lb := #[.pointer (some ⟨w.heap.size + 1 + 1, 0, none⟩), .pointer (some ⟨w.heap.size + 1 + 1 + 1, 0, none⟩)]) rfl trivial (enters_of Try.func35 (by kernel_rfl) rfl)
    hseq (own2_plain _ _) stirK_t (stirK_b (by rw [hT]; intro k hk; omega)) (Below.refl _ _) (fun _ => rfl)
    (fun pre W => (∃ v, Boxed W (w.heap.size + 1) 24 v ∧ W.ownsRow (w.heap.size + 4) 9 1 v (pickL (fun x => x == 1) pre).length ((pickL (fun x => x == 1) pre).map .string) ∧ True) ∧ Boxed W w.heap.size 41 (.func (.func 25) #[] #[]) ∧ Stir T2 w1 W)
    (fun _ _ _ => False)
    (OwnFrom.and (Own.from (holdsRow_own (w.heap.size + 4) (w.heap.size + 1) 24 9 1 (fun pre : List (ByteArray × Int) => (pickL (fun x => x == 1) pre).length) (fun pre => (pickL (fun x => x == 1) pre).map .string) (fun _ _ => True)) _) (OwnFrom.and (Own.from (boxed_own _ _ _) _) (ownFrom_stir w1 (by rw [hT2]; intro k hk; omega))))
    (fun _ => ownFrom_no) ?abides (fun _ _ _ _ h _ => h)
    ⟨⟨_, bS1, World.ownsRow_nil _ _ _ _, trivial⟩, bI1, Stir.refl _ _⟩
    (fun x => { tmps := #[.slice A as0.length c, .slice B bs0.length d, .func (.func 25) #[] #[], undef, undef, .pointer (some ⟨w.heap.size, 0, none⟩), .slice none 0 0, .pointer (some ⟨w.heap.size + 1, 0, none⟩), .string x.1, .int .i64 x.2, .slice A as0.length c, .slice B bs0.length d, .func (.func 35) #[] #[.pointer (some ⟨w.heap.size + 1 + 1, 0, none⟩), .pointer (some ⟨w.heap.size + 1 + 1 + 1, 0, none⟩)], .string x.1, .int .i64 x.2, undef, undef, undef, undef, undef, undef, undef, undef], defers := [] }) ?assign ?body ?done ?stop
  case abides =>
    rintro s X Y ⟨⟨v, h1, h2, _⟩, h3, h4⟩ hr
    have hs := hO _ _ hr
    refine ⟨⟨v, boxed_stir h1 hs (by omega), hs.owns h2 (fun k hk => ?_), trivial⟩, boxed_stir h3 hs (by omega), h4.trans hs (fun i _ e => by rw [hT2]; omega)⟩
    have := (h2.lt k hk).1
    omega
  case assign =>
    intro l x W K hK
    gi_wp2
    exact hK
  case body =>
    rintro l pre x W ⟨⟨v, hv, hrow, _⟩, hI, hS⟩ hlen
    have hpl := pickL_len (fun x => x == 1) pre
    have hsz : w1.heap.size ≤ W.heap.size := hS.size
    have hcI := hI.cell
    have hc := hv.cell
    cases q : (x.2 == 1)
    · skip
      have HI := Lib.hid hI
      clear hI
      gi_wp2_with fail
      refine ⟨trivial, ((callsIn_wide.2 (c25 x.2 _)).inRound l).mono ?_⟩
      rintro e w3 ⟨rfl, rfl⟩
      gi_wp2
      refine ⟨KeepsFrom.refl _ _, Stir.refl _ _, ⟨⟨_, hv, ?_, trivial⟩, HI.out, hS⟩⟩
      rw [pickL_no _ _ _ q]
      exact hrow
    · skip
      have hv0 := hv.alloc (.cells #[.string x.1] 9)
      have hf0 := hv0.frozen
      have hrow0 : (W.alloc (.cells #[.string x.1] 9)).ownsRow (w.heap.size + 4) 9 1 v (pickL (fun x => x == 1) pre).length ((pickL (fun x => x == 1) pre).map .string) := hrow.kept (World.grownBy_alloc W _ none) (by cases h : v.ownBlock with | none => exact .inl rfl | some _ => exact .inr (by simp))
      have hS0 : Stir T W (W.alloc (.cells #[.string x.1] 9)) := (Stir.refl T W).alloc _
      have hK0 : KeepsOthers W (W.alloc (.cells #[.string x.1] 9)) := KeepsOthers.of_grownBy (World.grownBy_alloc W _ none) (fun j o e _ => by cases e)
      have hx : ∀ j u, ([.string x.1] : List Value)[j]? = some u → (W.alloc (.cells #[.string x.1] 9)).cell? ((⟨W.heap.size, 0, none⟩ : Addr).add j) = some u := by
        intro j u hj
        match j, hj with
        | 0, hj => cases hj; show (W.alloc (.cells #[.string x.1] 9)).cell? ⟨W.heap.size, 0, none⟩ = _; unfold World.cell?; rw [heap_alloc_new]; rfl
        | j + 1, hj => simp at hj
      have hTb : ∀ i, w.heap.size + 4 ≤ i → T i := by intro k hk; rw [hT]; exact .inr hk
      have hTB : T (w.heap.size + 1) := by rw [hT]; exact .inl rfl
      have HI := Lib.hid hI
      clear hI
      gi_wp2_with fail
      refine ⟨trivial, ((callsIn_wide.2 (c25 x.2 _)).inRound l).mono ?_⟩
      rintro e w3 ⟨rfl, rfl⟩
      gi_wp2_with (gi_at_builtin; go_loud (refine wpListIn_append_own (w3.alloc (.cells #[.string x.1] 9)) rfl (.tmp 18) (.tmp 20) 24 rfl (w.heap.size + 4) 9 i0 (.string ⟨#[]⟩) 1 16 Try.underlying24 hi hz0 hz1 hz2 rfl (by decide) _ _ _ rfl hrow0 ⟨w3.heap.size, 0, none⟩ 1 1 [.string x.1] rfl rfl hx (by intro u hu; rw [List.mem_singleton.1 hu]; rfl) (by unfold maxLen; omega) (by omega) (by simp; omega) ?_))
      intro v' w4 hown hgrow _
      obtain ⟨b1, b2, b3, b4, b5⟩ := Cav.Boxed.app hv (by decide) hrow hK0 hS0 hv0 hrow0 hTB hTb hown hgrow
      obtain ⟨a3, c3, rfl⟩ := owns_slice hown
      have m1 := b1.cell
      have m2 := b1.frozen
      have hI5 := b5.block _ HI.out.lt (by rw [hT]; omega)
      have HI5 := Lib.hid hI5
      clear hown hgrow hrow b1 hc hv hv0 hrow0 hS0 hK0 hx hf0 hI5 hcI
      gi_wp2
      refine ⟨b4.from _, b5, ⟨⟨_, b2, ?_, trivial⟩, HI5.out.trans HI.out, hS.trans b5 (fun i _ e => hTT i e)⟩⟩
      rw [pickL_yes _ _ _ q]
      simpa using b3
  case done =>
    rintro D ys W W0 hD rfl hWe ⟨⟨v, hv, hrow, _⟩, hI, hS⟩ hK
    have hc := hv.cell
    have hII := Lib.hid hI
    clear hI hWe
    gi_wp2
    refine ⟨by simp, .inl ⟨_, _, rfl, run_takeDeferred hK, ?_⟩⟩
    refine ⟨_, results_tmp rfl _ _ _, v, rfl, ?_, ?_⟩
    · refine owns_lower (hrow.kept (grownBy_putObj' _ D _) ?_) (by omega)
      rcases hrow.2 with ⟨rfl, _⟩ | ⟨g, cap, cur, rfl, _, hgb, _⟩
      · exact .inl rfl
      · refine .inr fun e' => ?_
        have e2 : g = D := by simpa [Value.ownBlock] using e'
        subst e2; rw [hK] at hgb; cases hgb
    · exact hb1.trans ((hS.trans (stirK_b (T := T2) (w := w1) (by rw [hT2]; intro k hk; omega) W D _ (.deferred none) (by omega) hK rfl rfl) (fun _ _ e => e)).below (by omega) (by rw [hT2]; intro k h; omega))
  case stop =>
    rintro D c pre W _ _ _ h _
    exact h.elim
end Go.Proofs.Ytelgfangaigncaa
