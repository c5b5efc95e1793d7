import Derived.Test.YtnlakdpfkgjdaaaDoorG2
import Derived.Test.YtnlakdpfkgjdaaaDoorWd
import Derived.Lib.ItoaLen
import Derived.Test.YtnlakdpfkgjdaaaDoorPAw
/- Plain laws about decimal numerals. No conditions. -/
namespace Go.Proofs.YtnlakdpfkgjdaaaDoor.Pure
open Go.RowKit Go.Pk Go.Proofs.YtnlakdpfkgjdaaaDoor.G Go.Proofs.YtnlakdpfkgjdaaaDoorW.PrintWords Go.Proofs.YtnlakdpfkgjdaaaDoorW.PrintLast
open Go.Lib (decDigits itoa atoiAll parseMag parseUint10)

def dstr (n : Int) : ByteArray := ⟨(itoa n).toArray⟩
def dd (u : Nat) : ByteArray := ⟨(decDigits u).toArray⟩
theorem dd_toList (u : Nat) : (dd u).toList = decDigits u := by rw [toList_data]; rfl
theorem dstr_toList (n : Int) : (dstr n).toList = itoa n := by rw [toList_data]; rfl
theorem dstr_data (n : Int) : (dstr n).data.toList = itoa n := rfl
def fin (x0 : Int) (s : ByteArray) : ByteArray := if x0 < 0 then ⟨#[45]⟩ ++ s else s
theorem one_size (n : Int) : (strOfNums [n]).size = 1 := by rw [strOfNums_size]; rfl
theorem one_toList (n : Int) : (strOfNums [n]).toList = [UInt8.ofNat n.toNat] := by rw [toList_data, strOfNums_data]; rfl
theorem small_eq (u : Nat) (h : u < 10) (acc : ByteArray) : strOfNums [(IntKind.u64.wrap (48 + (u : Int))) % 256] ++ acc = dd u ++ acc := by
  refine toList_inj ?_
  rw [toList_append, toList_append, one_toList, dd_toList, decDigits, dif_pos h, u64w]
  congr 3
  omega
theorem l0_small (x0 : Int) (k u : Nat) (h : u < 10) (acc : ByteArray) (ha : acc.size ≤ 1000) : caravanref1_Digits.l0 (k + 1) x0 (u : Int) acc = some (fin x0 (dd u ++ acc)) := by
  unfold caravanref1_Digits.l0
  rw [if_neg (by omega)]
  simp only [Option.bind_some]
  rw [if_pos (by rw [one_size]; omega), small_eq u h acc]
  have hs : (dd u ++ acc).size ≤ 1001 := by
    rw [← small_eq u h acc, ByteArray.size_append, one_size]; omega
  unfold fin
  split
  · rw [if_pos (by omega)]
  · rfl
theorem l0_spec (x0 : Int) : ∀ (m u : Nat), u < 10 ^ (m + 1) → u < 18446744073709551616 → ∀ (acc : ByteArray) (k : Nat), acc.size + m ≤ 1000 → caravanref1_Digits.l0 (k + (m + 1)) x0 (u : Int) acc = some (fin x0 (dd u ++ acc))
  | 0, u, h, _, acc, k, ha => l0_small x0 k u (by simpa using h) acc (by omega)
  | m + 1, u, h, hu, acc, k, ha => by
    by_cases hs : u < 10
    · exact l0_small x0 (k + (m + 1)) u hs acc (by omega)
    · have ih := l0_spec x0 m (u / 10) (by rw [Nat.pow_succ] at h; omega) (by omega)
      show caravanref1_Digits.l0 ((k + (m + 1)) + 1) x0 (u : Int) acc = _
      unfold caravanref1_Digits.l0
      rw [if_pos (by omega)]
      simp only [Option.bind_some]
      rw [if_pos (by rw [one_size]; omega)]
      have e1 : IntKind.u64.wrap (Int.tdiv (u : Int) 10) = ((u / 10 : Nat) : Int) := by
        rw [u64w, Int.tdiv_eq_ediv_of_nonneg (by omega)]; omega
      have e2 : Int.tmod (u : Int) 10 = ((u % 10 : Nat) : Int) := by
        rw [Int.tmod_eq_emod_of_nonneg (by omega)]; omega
      rw [e1, e2, ih _ k (by rw [ByteArray.size_append, one_size]; omega)]
      congr 2
      refine toList_inj ?_
      rw [toList_append, toList_append, toList_append, one_toList, dd_toList, dd_toList]
      conv => rhs; rw [decDigits, dif_neg hs]
      rw [List.append_assoc, u64w]
      congr 4
      omega
theorem dd_size (u : Nat) (h : u < 18446744073709551616) : (dd u).size ≤ 20 := by
  have e : (dd u).size = (decDigits u).length := by rw [← toList_length, dd_toList]
  rw [e, Lib.decDigits_length]; exact Lib.nDigits_le20 u h
theorem dstr_size (n : Int) (h0 : -9223372036854775808 ≤ n) (h1 : n ≤ 9223372036854775807) : (dstr n).size ≤ 21 := by
  have e : (dstr n).size = (itoa n).length := by rw [← toList_length, dstr_toList]
  rw [e]; exact Lib.itoa_length_le n h0 h1
theorem append_nil (s : ByteArray) : s ++ (⟨#[]⟩ : ByteArray) = s := toList_inj (by rw [toList_append]; simp [toList_data])
theorem digits_eq (n : Int) (h0 : -9223372036854775808 ≤ n) (h1 : n ≤ 9223372036854775807) (k : Nat) : caravanref1_Digits.f (k + 21) n = some (dstr n) := by
  unfold caravanref1_Digits.f
  have key : ∀ u : Nat, u < 18446744073709551616 → caravanref1_Digits.j0 (k + 21) n (u : Int) (⟨#[]⟩ : ByteArray) = some (fin n (dd u)) := fun u hu => by
    show caravanref1_Digits.l0 (k + (19 + 1)) n (u : Int) _ = _
    rw [l0_spec n 19 u (by omega) hu _ k (by show 0 + 19 ≤ 1000; omega), append_nil]
  by_cases hn : n < 0
  · rw [if_pos hn]
    have e : IntKind.u64.wrap (-(IntKind.u64.wrap n)) = ((n.natAbs : Nat) : Int) := by rw [u64w, u64w]; omega
    rw [e, key _ (by omega)]
    congr 1
    refine toList_inj ?_
    unfold fin
    rw [if_pos hn, toList_append, dd_toList, dstr_toList]
    unfold itoa
    rw [if_pos hn]
    simp [toList_data]
  · rw [if_neg hn]
    have e : IntKind.u64.wrap n = ((n.toNat : Nat) : Int) := by rw [u64w]; omega
    rw [e, key _ (by omega)]
    congr 1
    refine toList_inj ?_
    unfold fin
    rw [if_neg hn, dd_toList, dstr_toList]
    unfold itoa
    rw [if_neg hn]

theorem dec_digit (u : Nat) : ∀ c ∈ decDigits u, 48 ≤ c.toNat ∧ c.toNat ≤ 57 := by
  induction u using Nat.strongRecOn with
  | _ u ih =>
    intro c hc
    rw [decDigits] at hc
    split at hc
    · rename_i h
      rw [List.mem_singleton.1 hc, UInt8.toNat_ofNat']; omega
    · rename_i h
      rcases List.mem_append.1 hc with h' | h'
      · exact ih (u / 10) (by omega) c h'
      · rw [List.mem_singleton.1 h', UInt8.toNat_ofNat']; omega
theorem dec_ne (u : Nat) : decDigits u ≠ [] := by
  rw [decDigits]; split <;> simp
theorem parse_dec (u : Nat) : u < 18446744073709551616 → ∀ r, parseUint10 0 (decDigits u ++ r) = parseUint10 u r := by
  induction u using Nat.strongRecOn with
  | _ u ih =>
    intro hu r
    rw [decDigits]
    split
    · rename_i h
      rw [List.singleton_append]
      have e : (UInt8.ofNat (48 + u)).toNat = 48 + u := by rw [UInt8.toNat_ofNat']; omega
      rw [parseUint10, if_pos (by rw [e]; omega), if_neg (by omega), if_neg (by rw [e]; omega), e]
      congr 1; omega
    · rename_i h
      have e : (UInt8.ofNat (48 + u % 10)).toNat = 48 + u % 10 := by rw [UInt8.toNat_ofNat']; omega
      rw [List.append_assoc, ih (u / 10) (by omega) (by omega), List.singleton_append, parseUint10, if_pos (by rw [e]; omega), if_neg (by omega), if_neg (by rw [e]; omega), e]
      congr 1; omega
theorem mag_dec (u : Nat) (h : u < 18446744073709551616) : parseMag (decDigits u) = .ok u := by
  have := parse_dec u h []
  rw [List.append_nil] at this
  unfold parseMag
  rw [if_neg (dec_ne u), this]; rfl
theorem atoi_itoa (n : Int) (h0 : -9223372036854775808 ≤ n) (h1 : n ≤ 9223372036854775807) : atoiAll (itoa n) = .ok n := by
  by_cases hn : n < 0
  · have e : itoa n = 45 :: decDigits n.natAbs := by unfold itoa; rw [if_pos hn]
    rw [e, Lib.atoiAll_minus, mag_dec _ (by omega)]
    simp only [Lib.signed]
    rw [if_neg (by omega)]
    congr 1; omega
  · have e : itoa n = decDigits n.toNat := by unfold itoa; rw [if_neg hn]
    rw [e]
    cases hd : decDigits n.toNat with
    | nil => exact absurd hd (dec_ne _)
    | cons c r =>
      have hc := dec_digit n.toNat c (by rw [hd]; simp)
      rw [Lib.atoiAll_plain c r (by omega) (by omega), ← hd, mag_dec _ (by omega)]
      simp only [Lib.signless]
      rw [if_neg (by omega)]
      congr 1; omega
theorem numP_dstr (n : Int) (h0 : -9223372036854775808 ≤ n) (h1 : n ≤ 9223372036854775807) : numP (dstr n) = some n := by
  unfold numP
  rw [dstr_data, atoi_itoa n h0 h1]
  exact if_pos rfl
theorem numP_none (s : ByteArray) (h : ∀ v, itoa v ≠ s.toList) : numP s = none := by
  unfold numP
  split
  · rename_i v _
    rw [if_neg (by rw [← toList_data]; exact h v)]
  · rfl
theorem itoa_chars (v : Int) : ∀ c ∈ itoa v, c.toNat = 45 ∨ 48 ≤ c.toNat ∧ c.toNat ≤ 57 := by
  intro c hc
  unfold itoa at hc
  split at hc
  · rcases List.mem_cons.1 hc with rfl | h
    · exact .inl rfl
    · exact .inr (dec_digit _ c h)
  · exact .inr (dec_digit _ c hc)
theorem dec_zero (u : Nat) : ∀ r, decDigits u = 48 :: r → r = [] := by
  induction u using Nat.strongRecOn with
  | _ u ih =>
    intro r hr
    rw [decDigits] at hr
    split at hr
    · injection hr with _ e; exact e.symm
    · rename_i h
      cases hd : decDigits (u / 10) with
      | nil => exact absurd hd (dec_ne _)
      | cons c t =>
        rw [hd, List.cons_append] at hr
        injection hr with e1 e2
        subst e1
        obtain rfl := ih (u / 10) (by omega) t hd
        have hz : u / 10 = 0 := by
          rw [decDigits] at hd
          split at hd
          · rename_i h10
            injection hd with e _
            have := congrArg UInt8.toNat e
            rw [UInt8.toNat_ofNat'] at this
            have e48 : (48 : UInt8).toNat = 48 := rfl
            rw [e48] at this
            omega
          · rename_i h10
            have hl := congrArg List.length hd
            rw [List.length_append, List.length_singleton, List.length_singleton] at hl
            have := List.length_pos_iff.2 (dec_ne (u / 10 / 10))
            omega
        omega
theorem itoa_ne (v : Int) : itoa v ≠ [] := by
  unfold itoa; split
  · simp
  · exact dec_ne _
theorem itoa_zero (v : Int) (r : List UInt8) (h : itoa v = 48 :: r) : r = [] := by
  unfold itoa at h
  split at h
  · injection h with e _; cases e
  · exact dec_zero _ r h
theorem itoa_minus (v : Int) (r : List UInt8) (h : itoa v = 45 :: r) : ∃ u, decDigits u = r := by
  unfold itoa at h
  split at h
  · injection h with _ e; exact ⟨_, e⟩
  · have := dec_digit v.toNat 45 (by rw [h]; simp)
    have e45 : (45 : UInt8).toNat = 45 := rfl
    omega
end Go.Proofs.YtnlakdpfkgjdaaaDoor.Pure

/- What spans.Read makes of texts of one, two or three pieces. No conditions. -/
namespace Go.Proofs.YtnlakdpfkgjdaaaDoor.Pure
open Go.RowKit Go.Pk Go.Cav Go.Proofs.YtnlakdpfkgjdaaaDoor.G Go.Proofs.YtnlakdpfkgjdaaaDoorW.PrintWords Go.Proofs.YtnlakdpfkgjdaaaDoorW.PrintLast
open Go.Lib (decDigits itoa atoiAll parseMag parseUint10)
/-- a text of bytes -/
def bs (l : List UInt8) : ByteArray := ⟨l.toArray⟩
theorem bs_data (l : List UInt8) : (bs l).data.toList = l := rfl
theorem of_data (s : ByteArray) : bs s.data.toList = s := by cases s; rfl
/-- the number that Atoi makes of a text -/
def aO (l : List UInt8) : Option Int := match atoiAll l with | .ok v => some v | _ => none
theorem aO_bs (l : List UInt8) : atoiO (bs l) = (aO l).isSome ∧ ∀ v, aO l = some v → atoiV (bs l) = v := by
  unfold atoiO atoiV aO
  rw [bs_data]
  cases atoiAll l with
  | ok v => exact ⟨rfl, fun w h => Option.some.inj h⟩
  | «syntax» => exact ⟨rfl, fun w h => by cases h⟩
  | range => exact ⟨rfl, fun w h => by cases h⟩
theorem cut_free {l : List UInt8} (h : (45 : UInt8) ∉ l) : Lib.cut l [45] = (l, [], false) := by
  have h1 := cutAt_free 45 l h
  rcases cut_index 45 l with ⟨h2, _⟩ | ⟨i, _, _, h3⟩
  · unfold Lib.cut; rw [h2]; rfl
  · rw [h1] at h3
    have := congrArg List.length h3
    have h4 := List.length_pos_iff.2 (cutAt_ne 45 (l.drop (i + 1)))
    rw [List.length_cons, List.length_cons, List.length_nil] at this; omega
theorem cut_at {x : List UInt8} (y : List UInt8) (h : (45 : UInt8) ∉ x) : Lib.cut (x ++ 45 :: y) [45] = (x, y, true) := by
  have h1 := cutAt_app 45 y x h
  rcases cut_index 45 (x ++ 45 :: y) with ⟨_, h3⟩ | ⟨i, h2, h4, h3⟩
  · rw [h1] at h3
    have := congrArg List.length h3
    have h4 := List.length_pos_iff.2 (cutAt_ne 45 y)
    rw [List.length_cons, List.length_cons, List.length_nil] at this; omega
  · rw [h1] at h3
    have e := (List.cons.inj h3).1
    have el := congrArg List.length e
    rw [List.length_take] at el
    have : i = x.length := by omega
    subst this
    unfold Lib.cut
    rw [h2, if_pos (by omega)]
    simp
theorem one_free {l : List UInt8} (h : (45 : UInt8) ∉ l) : oneP (bs l) = (aO l).map fun v => ⟨v, v⟩ := by
  obtain ⟨h1, h2⟩ := aO_bs l
  have e1 : cut1 (bs l) = bs l := by unfold cut1; rw [bs_data, cut_free h]; rfl
  have e2 : cutH (bs l) = false := by unfold cutH; rw [bs_data, cut_free h]
  unfold oneP
  rw [e1, e2, h1]
  cases ha : aO l with
  | none => rw [if_neg (by simp)]; rfl
  | some v => rw [if_pos (by simp), h2 v ha]; rfl
theorem one_at {x : List UInt8} (y : List UInt8) (h : (45 : UInt8) ∉ x) : oneP (bs (x ++ 45 :: y)) = (aO x).bind fun v => (aO y).map fun u => ⟨v, u⟩ := by
  obtain ⟨h1, h2⟩ := aO_bs x
  obtain ⟨g1, g2⟩ := aO_bs y
  have e1 : cut1 (bs (x ++ 45 :: y)) = bs x := by unfold cut1; rw [bs_data, cut_at y h]; rfl
  have e3 : cut2 (bs (x ++ 45 :: y)) = bs y := by unfold cut2; rw [bs_data, cut_at y h]; rfl
  have e2 : cutH (bs (x ++ 45 :: y)) = true := by unfold cutH; rw [bs_data, cut_at y h]
  unfold oneP
  rw [e1, e2, e3, h1, g1]
  cases ha : aO x with
  | none => rw [if_neg (by simp)]; rfl
  | some v =>
    cases hb : aO y with
    | none => rw [if_neg (by simp)]; rfl
    | some u => rw [if_pos (by simp), h2 v ha, g2 u hb]; rfl
/-- a number's digits -/
def D (n : Int) : List UInt8 := itoa n
theorem D_eq {n : Int} (h : 0 ≤ n) : D n = decDigits n.toNat := by unfold D itoa; rw [if_neg (by omega)]
theorem D_digit {n : Int} (h : 0 ≤ n) : ∀ c ∈ D n, 48 ≤ c.toNat ∧ c.toNat ≤ 57 := by rw [D_eq h]; exact dec_digit _
theorem D_no {n : Int} (h : 0 ≤ n) {c : UInt8} (hc : c.toNat < 48) : c ∉ D n := fun e => by have := D_digit h c e; omega
theorem D_ne (n : Int) : D n ≠ [] := itoa_ne n
theorem aO_D {n : Int} (h0 : 0 ≤ n) (h1 : n ≤ 100000) : aO (D n) = some n := by unfold aO D; rw [atoi_itoa n (by omega) (by omega)]
theorem aO_bad {n : Int} (h0 : 0 ≤ n) (h1 : n ≤ 100000) {c : UInt8} (r : List UInt8) (hc : c.toNat < 48) : aO (D n ++ c :: r) = none := by
  unfold aO
  rw [D_eq h0]
  cases hd : decDigits n.toNat with
  | nil => exact absurd hd (dec_ne _)
  | cons b t =>
    have hb := dec_digit n.toNat b (by rw [hd]; simp)
    rw [List.cons_append, Lib.atoiAll_plain b _ (by omega) (by omega), ← List.cons_append, ← hd]
    unfold parseMag
    rw [if_neg (by simp [dec_ne]), parse_dec _ (by omega), parseUint10, if_neg (by omega)]
    rfl
theorem aO_zero {n : Int} (h0 : 0 ≤ n) (h1 : n ≤ 100000) : aO (48 :: D n) = some n := by
  have e := aO_D h0 h1
  unfold aO at e ⊢
  rw [D_eq h0] at e ⊢
  rw [Lib.atoiAll_plain 48 _ (by decide) (by decide)]
  unfold parseMag
  rw [if_neg (by simp), parseUint10, if_pos (by decide), if_neg (by omega), if_neg (by decide)]
  have := parse_dec n.toNat (by omega) []
  rw [List.append_nil] at this
  rw [show 0 * 10 + ((48 : UInt8).toNat - 48) = 0 from rfl, this, parseUint10]
  simp only [Lib.signless]
  rw [if_neg (by omega)]
  exact congrArg some (by omega)
/-- a span's text -/
def pc (s : S31) : List UInt8 := if s.f1 > s.f0 then D s.f0 ++ 45 :: D s.f1 else D s.f0
theorem oneS_pc (s : S31) : oneS s = bs (pc s) := by
  unfold oneS pc
  split
  · apply ByteArray.ext
    simp [bs, itoaB, D, ByteArray.data_append]
  · rfl
/-- a span that may be -/
def okP (s : S31) : Prop := 0 ≤ s.f0 ∧ s.f0 ≤ s.f1 ∧ s.f1 ≤ 100000
theorem one_pc {s : S31} (h : okP s) : oneP (bs (pc s)) = some s := by
  obtain ⟨h0, h1, h2⟩ := h
  unfold pc
  split
  · rw [one_at _ (D_no h0 (by decide)), aO_D h0 (by omega), aO_D (by omega) h2]; rfl
  · rw [one_free (D_no h0 (by decide)), aO_D h0 (by omega)]
    have : s.f1 = s.f0 := by omega
    cases s
    simp at this ⊢
    exact this.symm
theorem pc_no {s : S31} (h : okP s) : (44 : UInt8) ∉ pc s := by
  obtain ⟨h0, h1, h2⟩ := h
  unfold pc
  split
  · intro e
    rcases List.mem_append.1 e with e | e
    · exact D_no h0 (by decide) e
    · rcases List.mem_cons.1 e with e | e
      · cases e
      · exact D_no (by omega) (by decide) e
  · exact D_no h0 (by decide)
theorem cutB_bs (l : List UInt8) : cutB (bs l) = (cutAt 44 l).map bs := rfl
end Go.Proofs.YtnlakdpfkgjdaaaDoor.Pure

/- What spans.Read makes of a text of two spans, and of texts near it. No conditions. -/
namespace Go.Proofs.YtnlakdpfkgjdaaaDoor.Pure
open Go.RowKit Go.Pk Go.Cav Go.Proofs.YtnlakdpfkgjdaaaDoor.G Go.Proofs.YtnlakdpfkgjdaaaDoorW.PrintWords Go.Proofs.YtnlakdpfkgjdaaaDoorW.PrintLast
theorem bs_app (l m : List UInt8) : bs l ++ bs m = bs (l ++ m) := by
  apply ByteArray.ext
  simp [bs, ByteArray.data_append]
theorem bs_inj {l m : List UInt8} (h : bs l = bs m) : l = m := by
  have := congrArg (fun s : ByteArray => s.data.toList) h
  exact this
theorem bs_len {l m : List UInt8} (h : l.length ≠ m.length) : bs l ≠ bs m := fun e => h (by rw [bs_inj e])
theorem rl_some {p : List UInt8} {s : S31} (h : oneP (bs p) = some s) (r : List ByteArray) : readL (bs p :: r) = s :: readL r := by rw [readL, h]
theorem rl_none {p : List UInt8} (h : oneP (bs p) = none) (r : List ByteArray) : readL (bs p :: r) = [] := by rw [readL, h]
theorem cutB_app {p : List UInt8} (h : (44 : UInt8) ∉ p) (y : List UInt8) : cutB (bs (p ++ 44 :: y)) = bs p :: cutB (bs y) := by rw [cutB_bs, cutAt_app 44 y p h]; rfl
theorem cutB_free {p : List UInt8} (h : (44 : UInt8) ∉ p) : cutB (bs p) = [bs p] := by rw [cutB_bs, cutAt_free 44 p h]; rfl
theorem textS_of {l : List S31} (h : mayS l) : textS l = bs (Lib.join (l.map pc) [44]) := by
  unfold textS joinB
  rw [norm_idem h]
  have e : (l.map oneS).map (fun x : ByteArray => x.data.toList) = l.map pc := by
    rw [List.map_map]
    exact List.map_congr_left fun s _ => by show (oneS s).data.toList = _; rw [oneS_pc]; rfl
  exact congrArg (fun q => (⟨(Lib.join q [44]).toArray⟩ : ByteArray)) e
theorem readP_no {s : ByteArray} {l : List S31} (h : readL (cutB s) = l) (hn : mayS l → textS l ≠ s) : readP s = ([], false) := by
  unfold readP
  rw [h, if_neg]
  rintro ⟨h1, h2⟩
  have hm : mayF (-1) l := of_decide_eq_true h1
  exact hn hm h2
theorem readP_yes {s : ByteArray} {l : List S31} (h : readL (cutB s) = l) (hm : mayS l) (ht : textS l = s) : readP s = (l, true) := by
  unfold readP
  have hb : mayB l = true := decide_eq_true (p := mayF (-1) l) hm
  rw [h, if_pos ⟨hb, ht⟩]
theorem text0 : textS [] = bs [] := by rw [textS_of (l := []) trivial]; rfl
theorem one_empty : oneP (bs []) = none := by rw [one_free (by simp)]; rfl
theorem pc_bad {s : S31} (h : okP s) {c : UInt8} (hc : c.toNat < 48) (hc4 : c ≠ 44) : oneP (bs (pc s ++ [c])) = none ∧ (44 : UInt8) ∉ pc s ++ [c] := by
  refine ⟨?_, fun e => ?_⟩
  · obtain ⟨h0, h1, h2⟩ := h
    unfold pc
    split
    · rw [List.append_assoc, List.cons_append, one_at _ (D_no h0 (by decide)), aO_D h0 (by omega), aO_bad (by omega) h2 [] hc]; rfl
    · by_cases h45 : c = 45
      · subst h45
        rw [one_at [] (D_no h0 (by decide)), aO_D h0 (by omega)]; rfl
      · rw [one_free (fun e => ?_), aO_bad h0 (by omega) [] hc]; · rfl
        rcases List.mem_append.1 e with e | e
        · exact D_no h0 (by decide) e
        · exact h45 (List.mem_singleton.1 e).symm
  · rcases List.mem_append.1 e with e | e
    · exact pc_no h e
    · exact hc4 (List.mem_singleton.1 e).symm
/-- two pieces that are spans, but may not be -/
theorem bad_two {x y : S31} (hx : okP x) (hy : okP y) (hn : ¬ (x.f1 + 1 < y.f0 ∧ y.f1 ≤ 16383)) : readP (bs (pc x ++ 44 :: pc y)) = ([], false) := by
  refine readP_no (l := [x, y]) ?_ fun hm => ?_
  · rw [cutB_app (pc_no hx), cutB_free (pc_no hy), rl_some (one_pc hx), rl_some (one_pc hy)]; rfl
  · exact absurd ⟨hm.2.2.2.1, hm.2.2.2.2.2.1⟩ hn
section
variable {u v : S31} (hu : okP u) (hv : okP v) (huv : u.f1 + 1 < v.f0) (hvm : v.f1 ≤ 16383)
include hu hv huv hvm
theorem may2 : mayS [u, v] := ⟨by have := hu.1; omega, hu.2.1, by have := hv.2.1; omega, huv, hv.2.1, hvm, trivial⟩
theorem may1 : mayS [u] := ⟨by have := hu.1; omega, hu.2.1, by have := hv.2.1; omega, trivial⟩
theorem text2 : textS [u, v] = bs (pc u ++ 44 :: pc v) := by rw [textS_of (may2 hu hv huv hvm)]; simp [Lib.join]
theorem text1 : textS [u] = bs (pc u) := by rw [textS_of (may1 hu hv huv hvm)]; simp [Lib.join]
theorem good : readP (bs (pc u ++ 44 :: pc v)) = ([u, v], true) := by
  refine readP_yes ?_ (may2 hu hv huv hvm) (text2 hu hv huv hvm)
  rw [cutB_app (pc_no hu), cutB_free (pc_no hv), rl_some (one_pc hu), rl_some (one_pc hv)]; rfl
theorem bad0 : readP (bs ((pc u ++ 44 :: pc v) ++ [44])) = ([], false) := by
  refine readP_no (l := [u, v]) ?_ fun _ => ?_
  · rw [List.append_assoc, List.cons_append, cutB_app (pc_no hu), cutB_app (pc_no hv), cutB_free (by simp), rl_some (one_pc hu), rl_some (one_pc hv), rl_none (one_empty)]
  · rw [text2 hu hv huv hvm]; exact bs_len (by simp)
omit hu hv huv hvm in
theorem bad1 : readP (bs (44 :: (pc u ++ 44 :: pc v))) = ([], false) := by
  refine readP_no (l := []) ?_ fun _ => ?_
  · rw [show (44 : UInt8) :: (pc u ++ 44 :: pc v) = [] ++ 44 :: (pc u ++ 44 :: pc v) from rfl, cutB_app (by simp), rl_none (one_empty)]
  · rw [text0]; exact bs_len (by simp)
theorem bad2 {c : UInt8} (hc : c.toNat < 48) (hc4 : c ≠ 44) : readP (bs ((pc u ++ 44 :: pc v) ++ [c])) = ([], false) := by
  obtain ⟨h1, h2⟩ := pc_bad hv hc hc4
  refine readP_no (l := [u]) ?_ fun _ => ?_
  · rw [List.append_assoc, List.cons_append, cutB_app (pc_no hu), cutB_free h2, rl_some (one_pc hu), rl_none h1]
  · rw [text1 hu hv huv hvm]; exact bs_len (by simp)
theorem bad6 : readP (bs (48 :: (pc u ++ 44 :: pc v))) = ([], false) := by
  refine readP_no (l := [u, v]) ?_ fun _ => ?_
  · have h : oneP (bs (48 :: pc u)) = some u := by
      obtain ⟨h0, h1, h2⟩ := hu
      have n45 : (45 : UInt8) ∉ 48 :: D u.f0 := fun e => by
        rcases List.mem_cons.1 e with e | e
        · cases e
        · exact D_no h0 (by decide) e
      unfold pc
      split
      · rw [← List.cons_append, one_at _ n45, aO_zero h0 (by omega), aO_D (by omega) h2]; rfl
      · rw [one_free n45, aO_zero h0 (by omega)]
        have : u.f1 = u.f0 := by omega
        cases u
        simp at this ⊢
        exact this.symm
    have n44 : (44 : UInt8) ∉ 48 :: pc u := fun e => by
      rcases List.mem_cons.1 e with e | e
      · cases e
      · exact pc_no hu e
    rw [← List.cons_append, cutB_app n44, cutB_free (pc_no hv), rl_some h, rl_some (one_pc hv)]; rfl
  · rw [text2 hu hv huv hvm]; exact bs_len (by simp)
omit hv huv hvm in
theorem bad9 : readP (bs (pc u ++ [45, 45, 53])) = ([], false) := by
  have n44 : (44 : UInt8) ∉ pc u ++ [45, 45, 53] := fun e => by
    rcases List.mem_append.1 e with e | e
    · exact pc_no hu e
    · revert e; decide
  obtain ⟨h0, h1, h2⟩ := hu
  by_cases c : u.f1 > u.f0
  · refine readP_no (l := []) ?_ fun _ => ?_
    · have e : pc u = D u.f0 ++ 45 :: D u.f1 := by unfold pc; rw [if_pos c]
      rw [cutB_free n44, e]
      refine rl_none ?_ _
      rw [List.append_assoc, List.cons_append, one_at _ (D_no h0 (by decide)), aO_D h0 (by omega), aO_bad (by omega) h2 _ (by decide)]; rfl
    · rw [text0]; exact bs_len (by simp)
  · refine readP_no (l := [⟨u.f0, -5⟩]) ?_ fun hm => ?_
    · have e : pc u = D u.f0 := by unfold pc; rw [if_neg c]
      rw [cutB_free n44, e, rl_some (s := ⟨u.f0, -5⟩)]
      · rfl
      · have e5 : aO [45, 53] = some (-5) := by decide
        rw [one_at _ (D_no h0 (by decide)), aO_D h0 (by omega), e5]; rfl
    · have h7 : u.f0 ≤ -5 := hm.2.1
      omega
theorem bad10 : readP (bs (D u.f0 ++ 45 :: D u.f0)) = ([], false) := by
  have w : okP ⟨u.f0, u.f0⟩ := ⟨hu.1, Int.le_refl _, by have := hu.2.1; have := hu.2.2; show u.f0 ≤ _; omega⟩
  have hm : mayS [⟨u.f0, u.f0⟩] := ⟨by have := hu.1; show -1 < u.f0; omega, Int.le_refl _, by have := hu.2.1; have := hv.2.1; show u.f0 ≤ _; omega, trivial⟩
  have hpc : pc ⟨u.f0, u.f0⟩ = D u.f0 := by unfold pc; rw [if_neg (by simp)]
  refine readP_no (l := [⟨u.f0, u.f0⟩]) ?_ fun _ => ?_
  · rw [cutB_free, rl_some (s := ⟨u.f0, u.f0⟩)]
    · rfl
    · rw [one_at _ (D_no hu.1 (by decide)), aO_D hu.1 w.2.2]; rfl
    · intro e
      rcases List.mem_append.1 e with e | e
      · exact D_no hu.1 (by decide) e
      · rcases List.mem_cons.1 e with e | e
        · cases e
        · exact D_no hu.1 (by decide) e
  · rw [textS_of hm, show Lib.join ([⟨u.f0, u.f0⟩].map pc) [44] = D u.f0 by rw [← hpc]; simp [Lib.join]]
    exact bs_len (by simp)
end
theorem bad11 : readP ⟨#[120]⟩ = ([], false) := by decide +kernel
end Go.Proofs.YtnlakdpfkgjdaaaDoor.Pure
