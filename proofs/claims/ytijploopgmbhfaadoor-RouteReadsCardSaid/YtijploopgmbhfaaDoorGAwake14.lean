/- The example of layer 14's statements in the print's words. Condition: strconv's variables are as they are laid. -/
import Derived.Test.YtijploopgmbhfaaDoorRmE
namespace Go.Proofs.YtijploopgmbhfaaDoor.G
open Go.RowKit
def caravanlaw14_awake.f : Option Bool := some true
theorem caravanlaw14_awake.calls (r : Bool) (w : World) (h : caravanlaw14_awake.f = some r) (hWd_ : Wd w) :
    Calls Tryd.prog 11 #[] w fun e w' => e = .returned (.bool r) ∧ Below w.heap.size w w' := by
  cases h
  exact awake_any w hWd_
end Go.Proofs.YtijploopgmbhfaaDoor.G
