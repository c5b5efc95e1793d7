/- Plain laws about items, for the statements: awake, decimals of small numbers, what may be. No conditions. -/
import Derived.Test.YtbmimcpllpgcaaaPK
import Derived.Test.YtbmimcpllpgcaaaG3
import Derived.Test.YtbmimcpllpgcaaaG5
namespace Go.Proofs.Ytbmimcpllpgcaaa.Pure
open Go.RowKit Go.Pk Go.Proofs.Ytbmimcpllpgcaaa.G Go.Proofs.YtbmimcpllpgcaaaW.PrintWords Go.Proofs.YtbmimcpllpgcaaaW.PrintLast

theorem awake_at : caravanlaw5_awake.f 9 = some true := by decide +kernel
theorem awake_ev : Ev caravanlaw5_awake.f true := Ev.at caravanlaw5_awake.mono 9 awake_at
/-- the decimal of 100 + i, i below 50 -/
def dg (i : Nat) : ByteArray := ⟨#[49, (48 + i / 10).toUInt8, (48 + i % 10).toUInt8]⟩
theorem digits_at : ∀ i : Fin 50, caravanref1_Digits.f 9 (100 + (i.val : Int)) = some (dg i.val) := by decide +kernel
theorem digits_ev (i : Nat) (h : i < 50) : Ev (fun k => caravanref1_Digits.f k (100 + (i : Int))) (dg i) := Ev.at (caravanref1_Digits.mono _) 9 (digits_at ⟨i, h⟩)
theorem dg_size (i : Nat) : (dg i).size = 3 := rfl
theorem dg_low : ∀ i : Fin 49, Op.bytesLess (dg i.val).toList (dg (i.val + 1)).toList = true := by decide +kernel
end Go.Proofs.Ytbmimcpllpgcaaa.Pure
