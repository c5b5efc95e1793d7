/- The plain law of TextAdds. No conditions. -/
import Derived.Test.YtfmhhahhomnkbaaDoorPn
namespace Go.Proofs.YtfmhhahhomnkbaaDoor.Pure
open Go.RowKit Go.Pk Go.Proofs.YtfmhhahhomnkbaaDoor.G Go.Proofs.YtfmhhahhomnkbaaDoorW.PrintWords Go.Proofs.YtfmhhahhomnkbaaDoorW.PrintLast
open Go.Lib (decDigits itoa)
theorem top_eq : (⟨#[57, 50, 50, 51, 51, 55, 50, 48, 51, 54, 56, 53, 52, 55, 55, 53, 56, 48, 55]⟩ : ByteArray) = dstr 9223372036854775807 := by
  refine toList_inj ?_
  rw [dstr_toList]
  unfold itoa
  simp [decDigits, toList_data]
theorem low_eq : (⟨#[45, 57, 50, 50, 51, 51, 55, 50, 48, 51, 54, 56, 53, 52, 55, 55, 53, 56, 48, 56]⟩ : ByteArray) = dstr (-9223372036854775808) := by
  refine toList_inj ?_
  rw [dstr_toList]
  unfold itoa
  simp [decDigits, toList_data]
theorem x_none : text_Add.f (⟨#[120]⟩ : ByteArray) 1 = some (⟨#[]⟩, false) := by
  unfold text_Add.f
  have h : addP (⟨#[120]⟩ : ByteArray) 1 = none := by
    unfold addP
    rw [numP_none _ (fun v e => ?_)]
    have := itoa_chars v 120 (by rw [e]; simp [toList_data])
    have e1 : (120 : UInt8).toNat = 120 := rfl
    omega
  rw [if_pos (by decide), h]; rfl
theorem TextAdds : caravanlaw6_TextAdds.Pure := by
  intro n m f h0 h1 h2
  have b0 := wf_i64 h0
  have b1 := wf_i32 h1
  have b2 := wf_u8 h2
  refine ⟨26, ?_⟩
  unfold caravanlaw6_TextAdds.f
  rw [w64 (n := m) (by omega) (by omega), w64 (n := f) (by omega) (by omega), digits_eq n b0.1 b0.2 5]
  simp only [Option.bind_some]
  by_cases hin : -9223372036854775808 ≤ n + m ∧ n + m ≤ 9223372036854775807
  · rw [add_f n m b0.1 b0.2 hin.1 hin.2]
    simp only [Option.bind_some]
    rw [w64 hin.1 hin.2, w64 (n := -m) (by omega) (by omega), w64 (n := 1 + f) (by omega) (by omega), w64 (n := -1 - f) (by omega) (by omega)]
    rw [if_neg (by by_cases h : 0 ≤ m <;> simp [h] <;> omega)]
    rw [add_f (n + m) (-m) hin.1 hin.2 (by omega) (by omega), top_eq, low_eq, add_f_out 9223372036854775807 (1 + f) (by omega) (by omega) (by omega) (by omega) (by omega), add_f_out (-9223372036854775808) (-1 - f) (by omega) (by omega) (by omega) (by omega) (by omega), x_none]
    simp only [Option.bind_some]
    rw [digits_eq (n + m) hin.1 hin.2 5, show n + m + -m = n by omega, show (26 : Nat) = 21 + 5 from rfl, awake_eq 21]
    simp
  · rw [add_f_out n m b0.1 b0.2 (by omega) (by omega) (by omega)]
    simp only [Option.bind_some]
    have hc : ((decide (wrap64 (n + m) ≥ n)) != (decide (m ≥ 0))) = true := by
      by_cases h : 0 ≤ m
      · have hw : wrap64 (n + m) = n + m - 18446744073709551616 := by unfold wrap64; omega
        rw [hw]; simp [h]; omega
      · have hw : wrap64 (n + m) = n + m + 18446744073709551616 := by unfold wrap64; omega
        rw [hw]; simp [h]; omega
    rw [if_pos hc, show (26 : Nat) = 21 + 5 from rfl, awake_eq 21]
    simp [toList_data]
end Go.Proofs.YtfmhhahhomnkbaaDoor.Pure
