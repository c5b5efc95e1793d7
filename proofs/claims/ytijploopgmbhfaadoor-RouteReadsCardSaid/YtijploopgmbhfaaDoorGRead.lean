/- route.Read in the print's words. Conditions: the text's length below 10^6; strconv's variables are as they are laid. -/
import Derived.Test.YtijploopgmbhfaaDoorRd
import Derived.Test.YtijploopgmbhfaaDoorG0
namespace Go.Proofs.YtijploopgmbhfaaDoor.G
open Go.RowKit
def route_Read.f (a0 : ByteArray) : Option (ByteArray × Int × Int) := if a0.size ≤ 1000000 then some (readP a0) else none
theorem route_Read.calls (a0 : ByteArray) (r1 : ByteArray) (r2 : Int) (r3 : Int) (w : World) (h : route_Read.f a0 = some (r1, r2, r3)) (hWd_ : Wd w) :
    Calls Tryd.prog 14 #[.string a0] w fun e w' => e = .returned (.tuple #[.string r1, .int .i64 r2, .int .i64 r3]) ∧ Below w.heap.size w w' := by
  unfold route_Read.f at h
  split at h
  case isFalse => cases h
  case isTrue hb =>
    have h := Option.some.inj h
    have e1 : (readP a0).1 = r1 := by rw [h]
    have e2 : (readP a0).2.1 = r2 := by rw [h]
    have e3 : (readP a0).2.2 = r3 := by rw [h]
    subst e1 e2 e3
    exact read_any a0 hb w hWd_
end Go.Proofs.YtijploopgmbhfaaDoor.G
