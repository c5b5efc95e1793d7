/- Plain laws about decimal numerals. No conditions. -/
import Derived.Test.YtijploopgmbhfaaDoorG1
import Derived.Test.YtijploopgmbhfaaDoorWd
import Derived.Lib.ItoaLen
namespace Go.Proofs.YtijploopgmbhfaaDoor.Pure
open Go.RowKit Go.Pk Go.Proofs.YtijploopgmbhfaaDoor.G Go.Proofs.YtijploopgmbhfaaDoorW.PrintWords Go.Proofs.YtijploopgmbhfaaDoorW.PrintLast
open Go.Lib (decDigits itoa atoiAll parseMag parseUint10)

def dstr (n : Int) : ByteArray := ⟨(itoa n).toArray⟩
def dd (u : Nat) : ByteArray := ⟨(decDigits u).toArray⟩
theorem dd_toList (u : Nat) : (dd u).toList = decDigits u := by rw [toList_data]; rfl
theorem dstr_toList (n : Int) : (dstr n).toList = itoa n := by rw [toList_data]; rfl
theorem dstr_data (n : Int) : (dstr n).data.toList = itoa n := rfl
def fin (x0 : Int) (s : ByteArray) : ByteArray := if x0 < 0 then ⟨#[45]⟩ ++ s else s
theorem one_size (n : Int) : (strOfNums [n]).size = 1 := by rw [strOfNums_size]; rfl
theorem one_toList (n : Int) : (strOfNums [n]).toList = [UInt8.ofNat n.toNat] := by rw [toList_data, strOfNums_data]; rfl
theorem small_eq (u : Nat) (h : u < 10) (acc : ByteArray) : strOfNums [(IntKind.u64.wrap (48 + (u : Int))) % 256] ++ acc = dd u ++ acc := by
  refine toList_inj ?_
  rw [toList_append, toList_append, one_toList, dd_toList, decDigits, dif_pos h, u64w]
  congr 3
  omega
theorem l0_small (x0 : Int) (k u : Nat) (h : u < 10) (acc : ByteArray) (ha : acc.size ≤ 1000) : caravanref1_Digits.l0 (k + 1) x0 (u : Int) acc = some (fin x0 (dd u ++ acc)) := by
  unfold caravanref1_Digits.l0
  rw [if_neg (by omega)]
  simp only [Option.bind_some]
  rw [if_pos (by rw [one_size]; omega), small_eq u h acc]
  have hs : (dd u ++ acc).size ≤ 1001 := by
    rw [← small_eq u h acc, ByteArray.size_append, one_size]; omega
  unfold fin
  split
  · rw [if_pos (by omega)]
  · rfl
theorem l0_spec (x0 : Int) : ∀ (m u : Nat), u < 10 ^ (m + 1) → u < 18446744073709551616 → ∀ (acc : ByteArray) (k : Nat), acc.size + m ≤ 1000 → caravanref1_Digits.l0 (k + (m + 1)) x0 (u : Int) acc = some (fin x0 (dd u ++ acc))
  | 0, u, h, _, acc, k, ha => l0_small x0 k u (by simpa using h) acc (by omega)
  | m + 1, u, h, hu, acc, k, ha => by
    by_cases hs : u < 10
    · exact l0_small x0 (k + (m + 1)) u hs acc (by omega)
    · have ih := l0_spec x0 m (u / 10) (by rw [Nat.pow_succ] at h; omega) (by omega)
      show caravanref1_Digits.l0 ((k + (m + 1)) + 1) x0 (u : Int) acc = _
      unfold caravanref1_Digits.l0
      rw [if_pos (by omega)]
      simp only [Option.bind_some]
      rw [if_pos (by rw [one_size]; omega)]
      have e1 : IntKind.u64.wrap (Int.tdiv (u : Int) 10) = ((u / 10 : Nat) : Int) := by
        rw [u64w, Int.tdiv_eq_ediv_of_nonneg (by omega)]; omega
      have e2 : Int.tmod (u : Int) 10 = ((u % 10 : Nat) : Int) := by
        rw [Int.tmod_eq_emod_of_nonneg (by omega)]; omega
      rw [e1, e2, ih _ k (by rw [ByteArray.size_append, one_size]; omega)]
      congr 2
      refine toList_inj ?_
      rw [toList_append, toList_append, toList_append, one_toList, dd_toList, dd_toList]
      conv => rhs; rw [decDigits, dif_neg hs]
      rw [List.append_assoc, u64w]
      congr 4
      omega
theorem dd_size (u : Nat) (h : u < 18446744073709551616) : (dd u).size ≤ 20 := by
  have e : (dd u).size = (decDigits u).length := by rw [← toList_length, dd_toList]
  rw [e, Lib.decDigits_length]; exact Lib.nDigits_le20 u h
theorem dstr_size (n : Int) (h0 : -9223372036854775808 ≤ n) (h1 : n ≤ 9223372036854775807) : (dstr n).size ≤ 21 := by
  have e : (dstr n).size = (itoa n).length := by rw [← toList_length, dstr_toList]
  rw [e]; exact Lib.itoa_length_le n h0 h1
theorem append_nil (s : ByteArray) : s ++ (⟨#[]⟩ : ByteArray) = s := toList_inj (by rw [toList_append]; simp [toList_data])
theorem digits_eq (n : Int) (h0 : -9223372036854775808 ≤ n) (h1 : n ≤ 9223372036854775807) (k : Nat) : caravanref1_Digits.f (k + 21) n = some (dstr n) := by
  unfold caravanref1_Digits.f
  have key : ∀ u : Nat, u < 18446744073709551616 → caravanref1_Digits.j0 (k + 21) n (u : Int) (⟨#[]⟩ : ByteArray) = some (fin n (dd u)) := fun u hu => by
    show caravanref1_Digits.l0 (k + (19 + 1)) n (u : Int) _ = _
    rw [l0_spec n 19 u (by omega) hu _ k (by show 0 + 19 ≤ 1000; omega), append_nil]
  by_cases hn : n < 0
  · rw [if_pos hn]
    have e : IntKind.u64.wrap (-(IntKind.u64.wrap n)) = ((n.natAbs : Nat) : Int) := by rw [u64w, u64w]; omega
    rw [e, key _ (by omega)]
    congr 1
    refine toList_inj ?_
    unfold fin
    rw [if_pos hn, toList_append, dd_toList, dstr_toList]
    unfold itoa
    rw [if_pos hn]
    simp [toList_data]
  · rw [if_neg hn]
    have e : IntKind.u64.wrap n = ((n.toNat : Nat) : Int) := by rw [u64w]; omega
    rw [e, key _ (by omega)]
    congr 1
    refine toList_inj ?_
    unfold fin
    rw [if_neg hn, dd_toList, dstr_toList]
    unfold itoa
    rw [if_neg hn]

theorem dec_digit (u : Nat) : ∀ c ∈ decDigits u, 48 ≤ c.toNat ∧ c.toNat ≤ 57 := by
  induction u using Nat.strongRecOn with
  | _ u ih =>
    intro c hc
    rw [decDigits] at hc
    split at hc
    · rename_i h
      rw [List.mem_singleton.1 hc, UInt8.toNat_ofNat']; omega
    · rename_i h
      rcases List.mem_append.1 hc with h' | h'
      · exact ih (u / 10) (by omega) c h'
      · rw [List.mem_singleton.1 h', UInt8.toNat_ofNat']; omega
theorem dec_ne (u : Nat) : decDigits u ≠ [] := by
  rw [decDigits]; split <;> simp
theorem parse_dec (u : Nat) : u < 18446744073709551616 → ∀ r, parseUint10 0 (decDigits u ++ r) = parseUint10 u r := by
  induction u using Nat.strongRecOn with
  | _ u ih =>
    intro hu r
    rw [decDigits]
    split
    · rename_i h
      rw [List.singleton_append]
      have e : (UInt8.ofNat (48 + u)).toNat = 48 + u := by rw [UInt8.toNat_ofNat']; omega
      rw [parseUint10, if_pos (by rw [e]; omega), if_neg (by omega), if_neg (by rw [e]; omega), e]
      congr 1; omega
    · rename_i h
      have e : (UInt8.ofNat (48 + u % 10)).toNat = 48 + u % 10 := by rw [UInt8.toNat_ofNat']; omega
      rw [List.append_assoc, ih (u / 10) (by omega) (by omega), List.singleton_append, parseUint10, if_pos (by rw [e]; omega), if_neg (by omega), if_neg (by rw [e]; omega), e]
      congr 1; omega
theorem mag_dec (u : Nat) (h : u < 18446744073709551616) : parseMag (decDigits u) = .ok u := by
  have := parse_dec u h []
  rw [List.append_nil] at this
  unfold parseMag
  rw [if_neg (dec_ne u), this]; rfl
theorem atoi_itoa (n : Int) (h0 : -9223372036854775808 ≤ n) (h1 : n ≤ 9223372036854775807) : atoiAll (itoa n) = .ok n := by
  by_cases hn : n < 0
  · have e : itoa n = 45 :: decDigits n.natAbs := by unfold itoa; rw [if_pos hn]
    rw [e, Lib.atoiAll_minus, mag_dec _ (by omega)]
    simp only [Lib.signed]
    rw [if_neg (by omega)]
    congr 1; omega
  · have e : itoa n = decDigits n.toNat := by unfold itoa; rw [if_neg hn]
    rw [e]
    cases hd : decDigits n.toNat with
    | nil => exact absurd hd (dec_ne _)
    | cons c r =>
      have hc := dec_digit n.toNat c (by rw [hd]; simp)
      rw [Lib.atoiAll_plain c r (by omega) (by omega), ← hd, mag_dec _ (by omega)]
      simp only [Lib.signless]
      rw [if_neg (by omega)]
      congr 1; omega
theorem numP_dstr (n : Int) (h0 : -9223372036854775808 ≤ n) (h1 : n ≤ 9223372036854775807) : numP (dstr n) = some n := by
  unfold numP
  rw [dstr_data, atoi_itoa n h0 h1]
  exact if_pos rfl
theorem numP_none (s : ByteArray) (h : ∀ v, itoa v ≠ s.toList) : numP s = none := by
  unfold numP
  split
  · rename_i v _
    rw [if_neg (by rw [← toList_data]; exact h v)]
  · rfl
theorem itoa_chars (v : Int) : ∀ c ∈ itoa v, c.toNat = 45 ∨ 48 ≤ c.toNat ∧ c.toNat ≤ 57 := by
  intro c hc
  unfold itoa at hc
  split at hc
  · rcases List.mem_cons.1 hc with rfl | h
    · exact .inl rfl
    · exact .inr (dec_digit _ c h)
  · exact .inr (dec_digit _ c hc)
theorem dec_zero (u : Nat) : ∀ r, decDigits u = 48 :: r → r = [] := by
  induction u using Nat.strongRecOn with
  | _ u ih =>
    intro r hr
    rw [decDigits] at hr
    split at hr
    · injection hr with _ e; exact e.symm
    · rename_i h
      cases hd : decDigits (u / 10) with
      | nil => exact absurd hd (dec_ne _)
      | cons c t =>
        rw [hd, List.cons_append] at hr
        injection hr with e1 e2
        subst e1
        obtain rfl := ih (u / 10) (by omega) t hd
        have hz : u / 10 = 0 := by
          rw [decDigits] at hd
          split at hd
          · rename_i h10
            injection hd with e _
            have := congrArg UInt8.toNat e
            rw [UInt8.toNat_ofNat'] at this
            have e48 : (48 : UInt8).toNat = 48 := rfl
            rw [e48] at this
            omega
          · rename_i h10
            have hl := congrArg List.length hd
            rw [List.length_append, List.length_singleton, List.length_singleton] at hl
            have := List.length_pos_iff.2 (dec_ne (u / 10 / 10))
            omega
        omega
theorem itoa_ne (v : Int) : itoa v ≠ [] := by
  unfold itoa; split
  · simp
  · exact dec_ne _
theorem itoa_zero (v : Int) (r : List UInt8) (h : itoa v = 48 :: r) : r = [] := by
  unfold itoa at h
  split at h
  · injection h with e _; cases e
  · exact dec_zero _ r h
theorem itoa_minus (v : Int) (r : List UInt8) (h : itoa v = 45 :: r) : ∃ u, decDigits u = r := by
  unfold itoa at h
  split at h
  · injection h with _ e; exact ⟨_, e⟩
  · have := dec_digit v.toNat 45 (by rw [h]; simp)
    have e45 : (45 : UInt8).toNat = 45 := rfl
    omega
end Go.Proofs.YtijploopgmbhfaaDoor.Pure
