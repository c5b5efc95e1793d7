/- The plain law of TextAll. No conditions. -/
import Derived.Test.YtijploopgmbhfaaDoorPNum
import Derived.Test.YtijploopgmbhfaaDoorG1
namespace Go.Proofs.YtijploopgmbhfaaDoor.Pure
open Go.RowKit Go.Pk Go.Proofs.YtijploopgmbhfaaDoor.G Go.Proofs.YtijploopgmbhfaaDoorW.PrintWords Go.Proofs.YtijploopgmbhfaaDoorW.PrintLast Go.Proofs.YtijploopgmbhfaaDoorW.PrintMore
open Go.Lib (decDigits itoa)
/-- the loop through the digits of a text -/
def goD (most : Nat) : Nat → List UInt8 → Option Nat
  | u, [] => some u
  | u, c :: r => if c.toNat < 48 ∨ 57 < c.toNat ∨ (most - (c.toNat - 48)) / 10 < u then none else goD most (10 * u + (c.toNat - 48)) r
theorem goD_dec (most u : Nat) (hm : 9 ≤ most) : u ≤ most → ∀ r, goD most 0 (decDigits u ++ r) = goD most u r := by
  induction u using Nat.strongRecOn with
  | _ u ih =>
    intro hu r
    rw [decDigits]
    split
    · rename_i h
      have e : (UInt8.ofNat (48 + u)).toNat = 48 + u := by rw [UInt8.toNat_ofNat']; omega
      rw [List.singleton_append, goD, e, if_neg (by omega)]
      congr 1; omega
    · rename_i h
      have e : (UInt8.ofNat (48 + u % 10)).toNat = 48 + u % 10 := by rw [UInt8.toNat_ofNat']; omega
      rw [List.append_assoc, ih (u / 10) (by omega) (by omega), List.singleton_append, goD, e, if_neg (by omega)]
      congr 1; omega
theorem bt_at (s : ByteArray) (i : Nat) (h : i < s.data.toList.length) : bt s (i : Int) = ((s.data.toList[i]).toNat : Int) := by
  have h' : i < s.size := by rw [Array.length_toList] at h; exact h
  unfold bt
  rw [dif_pos (by simpa using h')]
  simp only [Int.toNat_natCast]
  rfl
/-- what stands behind the loop -/
def numF (s : ByteArray) (fr u : Nat) : Option (Int × Bool) :=
  if s.size = fr then some (0, false) else if dstr (if fr = 1 then -(u : Int) else (u : Int)) = s then some (if fr = 1 then -(u : Int) else (u : Int), true) else some (0, false)
theorem l0_end (s : ByteArray) (fr most u k : Nat) (hf : fr ≤ 1) (hm : most = 9223372036854775807 + fr) (hu : u ≤ most) (hk : 21 ≤ k) :
    caravanref5_Number.l0 (k + 1) s (u : Int) (fr : Int) (most : Int) (s.size : Int) = numF s fr u := by
  obtain ⟨k, rfl⟩ : ∃ j, k = j + 21 := ⟨k - 21, by omega⟩
  unfold caravanref5_Number.l0 numF
  rw [if_neg (by omega)]
  by_cases h1 : fr = 1
  · subst h1
    rw [if_pos (by rfl)]
    by_cases hz : s.size = 1
    · rw [if_pos (by omega), if_pos hz]
    · rw [if_neg (by omega), if_neg hz]
      have e : wrap64 (IntKind.u64.wrap (-(u : Int))) = -(u : Int) := by rw [u64w]; unfold wrap64; omega
      rw [e, digits_eq _ (by omega) (by omega) k]
      simp only [Option.bind_some, toList_iff, if_true]
  · obtain rfl : fr = 0 := by omega
    rw [if_neg (by decide)]
    by_cases hz : s.size = 0
    · rw [if_pos (by omega), if_pos hz]
    · rw [if_neg (by omega), if_neg hz]
      have e : wrap64 (u : Int) = (u : Int) := w64 (by omega) (by omega)
      rw [e, digits_eq _ (by omega) (by omega) k]
      simp only [Option.bind_some, toList_iff]
      rfl
theorem l0_run (s : ByteArray) (fr most : Nat) (hf : fr ≤ 1) (hm : most = 9223372036854775807 + fr) (hs : s.size ≤ 1000000) : ∀ (m i u k : Nat), i + m = s.size → u ≤ most → 21 ≤ k →
    caravanref5_Number.l0 (k + m + 1) s (u : Int) (fr : Int) (most : Int) (i : Int) = (match goD most u (s.data.toList.drop i) with | none => some (0, false) | some u' => numF s fr u')
  | 0, i, u, k, hi, hu, hk => by
    have hl : s.data.toList.length = s.size := by rw [Array.length_toList]; rfl
    rw [List.drop_of_length_le (by omega)]
    obtain rfl : i = s.size := by omega
    exact l0_end s fr most u k hf hm hu hk
  | m + 1, i, u, k, hi, hu, hk => by
    have hl : s.data.toList.length = s.size := by rw [Array.length_toList]; rfl
    have hil : i < s.data.toList.length := by omega
    rw [List.drop_eq_getElem_cons hil, goD]
    have hb := bt_at s i hil
    generalize s.data.toList[i] = c at hb
    have hc := c.toNat_lt
    show caravanref5_Number.l0 ((k + m + 1) + 1) s (u : Int) (fr : Int) (most : Int) (i : Int) = _
    unfold caravanref5_Number.l0
    rw [if_pos (by omega), if_pos (by omega), hb]
    by_cases h1 : c.toNat < 48
    · rw [if_pos (by omega), if_pos (.inl h1)]
    · by_cases h2 : 57 < c.toNat
      · rw [if_neg (by omega), if_pos (by omega), if_pos (.inr (.inl h2))]
      · rw [if_neg (by omega), if_neg (by omega)]
        have e1 : ((c.toNat : Int) - 48) % 256 = ((c.toNat - 48 : Nat) : Int) := by omega
        rw [e1]
        obtain ⟨d, hd⟩ : ∃ d, d = c.toNat - 48 := ⟨_, rfl⟩
        rw [← hd]
        have hd9 : d ≤ 9 := by omega
        have e2 : IntKind.u64.wrap (Int.tdiv (IntKind.u64.wrap ((most : Int) - (d : Int))) 10) = (((most - d) / 10 : Nat) : Int) := by
          rw [u64w, u64w, Int.tdiv_eq_ediv_of_nonneg (by omega)]; omega
        rw [e2]
        by_cases h3 : (most - d) / 10 < u
        · rw [if_pos (by omega), if_pos (.inr (.inr h3))]
        · rw [if_neg (by omega), if_neg (by omega)]
          have e3 : IntKind.u64.wrap ((IntKind.u64.wrap (10 * (u : Int))) + (d : Int)) = ((10 * u + d : Nat) : Int) := by
            rw [u64w, u64w]; omega
          have e4 : wrap64 ((i : Int) + 1) = ((i + 1 : Nat) : Int) := by rw [w64 (by omega) (by omega)]; rfl
          rw [e3, e4]
          exact l0_run s fr most hf hm hs m (i + 1) (10 * u + d) k (by omega) (by omega) hk
theorem goD_le (most : Nat) (hm : 9 ≤ most) : ∀ (l : List UInt8) (u u' : Nat), u ≤ most → goD most u l = some u' → u' ≤ most
  | [], u, u', h, e => by unfold goD at e; cases e; exact h
  | c :: r, u, u', h, e => by
    unfold goD at e
    split at e
    · cases e
    · rename_i hc
      exact goD_le most hm r _ u' (by omega) e
/-- the sign -/
def neg (s : ByteArray) : Nat := if s.data.toList.head? = some 45 then 1 else 0
theorem number_run (s : ByteArray) (hs : s.size ≤ 1000000) (k : Nat) (hk : 21 ≤ k) :
    caravanref5_Number.f (k + s.size + 3) s = (match goD (9223372036854775807 + neg s) 0 (s.data.toList.drop (neg s)) with | none => some (0, false) | some u' => numF s (neg s) u') := by
  have hl : s.data.toList.length = s.size := by rw [Array.length_toList]; rfl
  unfold caravanref5_Number.f
  by_cases h0 : s.toList = []
  · have hz : s.size = 0 := by rw [← toList_length, h0]; rfl
    have hn : neg s = 0 := by unfold neg; rw [← toList_data, h0]; rfl
    rw [if_pos h0, hn, hz]
    have := l0_run s 0 9223372036854775807 (by omega) rfl hs 0 0 0 k (by omega) (by omega) hk
    exact this
  · have hz : 0 < s.size := by
      rw [← toList_length]
      exact List.length_pos_iff.2 h0
    rw [if_neg h0, if_pos (by omega)]
    have hb := bt_at s 0 (by omega)
    have hh : s.data.toList.head? = some (s.data.toList[0]'(by omega)) := by rw [List.head?_eq_getElem?, List.getElem?_eq_getElem (by omega)]
    by_cases h45 : s.data.toList[0]'(by omega) = 45
    · have hn : neg s = 1 := by unfold neg; rw [hh, h45]; rfl
      have e : (bt s 0 == 45) = true := by
        have : bt s 0 = bt s ((0 : Nat) : Int) := rfl
        rw [this, hb, h45]; rfl
      rw [hn, e]
      obtain ⟨m, hm⟩ : ∃ m, s.size = m + 1 := ⟨s.size - 1, by omega⟩
      have := l0_run s 1 9223372036854775808 (by omega) rfl hs m 1 0 (k + 1) (by omega) (by omega) (by omega)
      rw [show k + s.size + 3 = ((k + 1 + m + 1) + 1) + 1 by omega]
      exact this
    · have hn : neg s = 0 := by unfold neg; rw [hh, if_neg (fun h => h45 (Option.some.inj h))]
      have e : (bt s 0 == 45) = false := by
        have : bt s 0 = bt s ((0 : Nat) : Int) := rfl
        rw [this, hb, beq_eq_false_iff_ne]
        intro h
        refine h45 (UInt8.toNat_inj.1 ?_)
        have e45 : (45 : UInt8).toNat = 45 := rfl
        omega
      rw [hn, e]
      have := l0_run s 0 9223372036854775807 (by omega) rfl hs s.size 0 0 k (by omega) (by omega) hk
      exact this
theorem numP_cases (s : ByteArray) : (∃ v : Int, -9223372036854775808 ≤ v ∧ v ≤ 9223372036854775807 ∧ s = dstr v ∧ numP s = some v) ∨ ((∀ v : Int, -9223372036854775808 ≤ v → v ≤ 9223372036854775807 → dstr v ≠ s) ∧ numP s = none) := by
  by_cases h : ∃ v : Int, -9223372036854775808 ≤ v ∧ v ≤ 9223372036854775807 ∧ s = dstr v
  · obtain ⟨v, h0, h1, rfl⟩ := h
    exact .inl ⟨v, h0, h1, rfl, numP_dstr v h0 h1⟩
  · refine .inr ⟨fun v h0 h1 e => h ⟨v, h0, h1, e.symm⟩, ?_⟩
    unfold numP
    split
    · rename_i v hv
      obtain ⟨b0, b1⟩ := Lib.atoiAll_bounds hv
      refine if_neg fun e => h ⟨v, b0, b1, ?_⟩
      refine toList_inj ?_
      rw [toList_data, dstr_toList]
      exact e.symm
    · rfl
theorem number_ref (s : ByteArray) (hs : s.size ≤ 1000000) (k : Nat) (hk : 21 ≤ k) : caravanref5_Number.f (k + s.size + 3) s = some ((numP s).getD 0, (numP s).isSome) := by
  rw [number_run s hs k hk]
  rcases numP_cases s with ⟨v, h0, h1, rfl, hv⟩ | ⟨hno, hv⟩
  · rw [hv]
    have hd : (dstr v).data.toList = itoa v := dstr_data v
    by_cases hn : v < 0
    · have e : itoa v = 45 :: decDigits v.natAbs := by unfold itoa; rw [if_pos hn]
      have en : neg (dstr v) = 1 := by unfold neg; rw [hd, e]; rfl
      have eg : goD (9223372036854775807 + 1) 0 (decDigits v.natAbs) = some v.natAbs := by
        have := goD_dec (9223372036854775807 + 1) v.natAbs (by omega) (by omega) []
        rw [List.append_nil] at this
        rw [this]; rfl
      rw [en, hd, e, List.drop_succ_cons, List.drop_zero, eg]
      have hz : ¬ (dstr v).size = 1 := by
        rw [← toList_length, toList_data, hd, e, List.length_cons]
        have := List.length_pos_iff.2 (dec_ne v.natAbs)
        omega
      have ev : -(v.natAbs : Int) = v := by omega
      simp only [numF, if_neg hz, if_true, ev, Option.getD_some, Option.isSome_some]
    · have e : itoa v = decDigits v.toNat := by unfold itoa; rw [if_neg hn]
      have en : neg (dstr v) = 0 := by
        unfold neg
        rw [hd, e, if_neg]
        intro h
        obtain ⟨r, hr⟩ : ∃ r, decDigits v.toNat = 45 :: r := by
          cases hdd : decDigits v.toNat with
          | nil => rw [hdd] at h; cases h
          | cons c r => rw [hdd] at h; cases h; exact ⟨r, rfl⟩
        have := dec_digit v.toNat 45 (by rw [hr]; simp)
        have e45 : (45 : UInt8).toNat = 45 := rfl
        omega
      have eg : goD (9223372036854775807 + 0) 0 (decDigits v.toNat) = some v.toNat := by
        have := goD_dec (9223372036854775807 + 0) v.toNat (by omega) (by omega) []
        rw [List.append_nil] at this
        rw [this]; rfl
      rw [en, hd, e, List.drop_zero, eg]
      have hz : ¬ (dstr v).size = 0 := by
        rw [← toList_length, toList_data, hd, e]
        have := List.length_pos_iff.2 (dec_ne v.toNat)
        omega
      have ev : (v.toNat : Int) = v := by omega
      simp only [numF, if_neg hz, Nat.zero_ne_one, if_false, if_true, ev, Option.getD_some, Option.isSome_some]
  · rw [hv]
    have hle : neg s ≤ 1 := by unfold neg; split <;> omega
    cases hg : goD (9223372036854775807 + neg s) 0 (s.data.toList.drop (neg s)) with
    | none => rfl
    | some u' =>
      have hu := goD_le _ (by omega) _ _ _ (by omega) hg
      show numF s (neg s) u' = _
      unfold numF
      split
      · rfl
      · rw [if_neg (hno _ (by split <;> omega) (by split <;> omega))]
        rfl
end Go.Proofs.YtijploopgmbhfaaDoor.Pure
