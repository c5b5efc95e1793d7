/- spans.Read in the print's words. Conditions: a bound on the text's length; strconv's variables are as they are laid. -/
import Derived.Test.YtnlakdpfkgjdaaaDoorRe
namespace Go.Proofs.YtnlakdpfkgjdaaaDoor.G
open Go.RowKit Go.Cav Go.Proofs.YtnlakdpfkgjdaaaDoorW.PrintWords Go.Proofs.YtnlakdpfkgjdaaaDoorW.PrintLast Go.Proofs.YtnlakdpfkgjdaaaDoorW.PrintMore
def spans_Read.f (a0 : ByteArray) : Option ((List S31) × Bool) := if a0.size ≤ 1000000 then some (readP a0) else none
theorem spans_Read.calls (a0 : ByteArray) (r1 : List S31) (r2 : Bool) (w : World) (h : spans_Read.f a0 = some (r1, r2)) (hWd_ : Wd w) :
    Calls Tryd.prog 10 #[.string a0] w fun e w' => ∃ v0_ : Value, e = .returned (.tuple #[v0_, .bool r2]) ∧ Kd.R k31 31 w' w.heap.size (fun _ => True) v0_ r1 ∧ Below w.heap.size w w' := by
  unfold spans_Read.f at h
  split at h
  case isFalse => cases h
  case isTrue hb =>
    have h2 := Option.some.inj h
    have h3 := read_any a0 hb w hWd_
    rw [h2] at h3
    exact h3
end Go.Proofs.YtnlakdpfkgjdaaaDoor.G
