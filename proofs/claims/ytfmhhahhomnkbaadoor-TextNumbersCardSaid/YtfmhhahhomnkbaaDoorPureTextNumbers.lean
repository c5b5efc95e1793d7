/- The plain law of TextNumbers. No conditions. -/
import Derived.Test.YtfmhhahhomnkbaaDoorPn
namespace Go.Proofs.YtfmhhahhomnkbaaDoor.Pure
open Go.RowKit Go.Pk Go.Proofs.YtfmhhahhomnkbaaDoor.G Go.Proofs.YtfmhhahhomnkbaaDoorW.PrintWords Go.Proofs.YtfmhhahhomnkbaaDoorW.PrintLast
open Go.Lib (decDigits itoa)
theorem odd_char (v : Int) (l : List UInt8) (c : UInt8) (hc : c ∈ l) (h1 : c.toNat ≠ 45) (h2 : c.toNat < 48 ∨ 57 < c.toNat) : itoa v ≠ l := fun e => by
  have := itoa_chars v c (by rw [e]; exact hc)
  omega
/-- the texts that are no numerals -/
def odd (s : ByteArray) : List ByteArray := [(⟨#[43]⟩ : ByteArray) ++ s, (⟨#[32]⟩ : ByteArray) ++ s, s ++ (⟨#[32]⟩ : ByteArray), (⟨#[48]⟩ : ByteArray) ++ s, (⟨#[45, 48]⟩ : ByteArray) ++ s, s ++ (⟨#[46]⟩ : ByteArray), (⟨#[45, 45]⟩ : ByteArray) ++ s, s ++ (⟨#[95, 49]⟩ : ByteArray), (⟨#[48, 120]⟩ : ByteArray) ++ s]
theorem odd_none (n : Int) (j : Nat) (x : ByteArray) (h : (odd (dstr n))[j]? = some x) : numP x = none := by
  refine numP_none x fun v => ?_
  match j, h with
  | 0, h => cases h; rw [toList_append, dstr_toList]; exact odd_char v _ 43 (by simp [toList_data]) (by decide) (by decide)
  | 1, h => cases h; rw [toList_append, dstr_toList]; exact odd_char v _ 32 (by simp [toList_data]) (by decide) (by decide)
  | 2, h => cases h; rw [toList_append, dstr_toList]; exact odd_char v _ 32 (by simp [toList_data]) (by decide) (by decide)
  | 3, h => cases h; rw [toList_append, dstr_toList]; exact fun e => itoa_ne n (itoa_zero v _ (by rw [toList_data] at e; exact e))
  | 4, h =>
    cases h; rw [toList_append, dstr_toList]
    intro e
    obtain ⟨u, hu⟩ := itoa_minus v (48 :: itoa n) (by rw [toList_data] at e; exact e)
    exact itoa_ne n (dec_zero u _ hu)
  | 5, h => cases h; rw [toList_append, dstr_toList]; exact odd_char v _ 46 (by simp [toList_data]) (by decide) (by decide)
  | 6, h =>
    cases h; rw [toList_append, dstr_toList]
    intro e
    obtain ⟨u, hu⟩ := itoa_minus v (45 :: itoa n) (by rw [toList_data] at e; exact e)
    have := dec_digit u 45 (by rw [hu]; simp)
    have e45 : (45 : UInt8).toNat = 45 := rfl
    omega
  | 7, h => cases h; rw [toList_append, dstr_toList]; exact odd_char v _ 95 (by simp [toList_data]) (by decide) (by decide)
  | 8, h => cases h; rw [toList_append, dstr_toList]; exact odd_char v _ 120 (by simp [toList_data]) (by decide) (by decide)
  | j + 9, h => simp [odd] at h
theorem odd_size (n : Int) (h0 : -9223372036854775808 ≤ n) (h1 : n ≤ 9223372036854775807) (j : Nat) (x : ByteArray) (h : (odd (dstr n))[j]? = some x) : x.size ≤ 30 := by
  have hs := dstr_size n h0 h1
  match j, h with
  | 0, h => cases h; rw [ByteArray.size_append]; show 1 + _ ≤ _; omega
  | 1, h => cases h; rw [ByteArray.size_append]; show 1 + _ ≤ _; omega
  | 2, h => cases h; rw [ByteArray.size_append]; show _ + 1 ≤ _; omega
  | 3, h => cases h; rw [ByteArray.size_append]; show 1 + _ ≤ _; omega
  | 4, h => cases h; rw [ByteArray.size_append]; show 2 + _ ≤ _; omega
  | 5, h => cases h; rw [ByteArray.size_append]; show _ + 1 ≤ _; omega
  | 6, h => cases h; rw [ByteArray.size_append]; show 2 + _ ≤ _; omega
  | 7, h => cases h; rw [ByteArray.size_append]; show _ + 2 ≤ _; omega
  | 8, h => cases h; rw [ByteArray.size_append]; show 2 + _ ≤ _; omega
  | j + 9, h => simp [odd] at h
theorem TextNumbers : caravanlaw6_TextNumbers.Pure := by
  intro n w h0 h1
  have b0 := wf_i64 h0
  have b1 := wf_u8 h1
  refine ⟨26, ?_⟩
  have hs := dstr_size n b0.1 b0.2
  unfold caravanlaw6_TextNumbers.f
  rw [digits_eq n b0.1 b0.2 5]
  simp only [Option.bind_some]
  rw [number_f n b0.1 b0.2]
  simp only [Option.bind_some]
  rw [if_pos (by omega), if_pos (by omega), if_pos (by omega), if_pos (by omega)]
  obtain ⟨j, hj, hj9⟩ : ∃ j : Nat, Int.tmod w 9 = (j : Int) ∧ j < 9 := ⟨(w % 9).toNat, by rw [Int.tmod_eq_emod_of_nonneg b1.1]; omega, by omega⟩
  rw [hj, if_pos (by omega)]
  have hl : (odd (dstr n)).length = 9 := rfl
  rw [if_pos (by show (j : Int) < ((odd (dstr n)).length : Int); rw [hl]; omega)]
  obtain ⟨x, hx⟩ : ∃ x, (odd (dstr n))[j]? = some x := ⟨_, List.getElem?_eq_getElem (by rw [hl]; exact hj9)⟩
  have hr : rdOf ByteArray.empty (odd (dstr n)) (j : Int) = x := rdOf_get _ _ _ _ hx
  have hf : text_Number.f x = some (0, false) := by
    unfold text_Number.f
    rw [if_pos (by have := odd_size n b0.1 b0.2 j x hx; omega), odd_none n j x hx]; rfl
  show ((text_Number.f (rdOf ByteArray.empty (odd (dstr n)) (j : Int))).bind _) = _
  rw [hr, hf, show (26 : Nat) = 21 + 5 from rfl, awake_eq 21]
  simp
end Go.Proofs.YtfmhhahhomnkbaaDoor.Pure
