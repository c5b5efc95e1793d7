/- The plain law of RouteReads. No conditions. -/
import Derived.Test.YtijploopgmbhfaaDoorG3
import Derived.Test.YtijploopgmbhfaaDoorPRd
namespace Go.Proofs.YtijploopgmbhfaaDoor.Pure
open Go.RowKit Go.Proofs.YtijploopgmbhfaaDoor.G Go.Proofs.YtijploopgmbhfaaDoorW.PrintWords Go.Proofs.YtijploopgmbhfaaDoorW.PrintLast
theorem RouteReads : caravanlaw14_RouteReads.Pure := by
  intro s _
  by_cases h : (s.size : Int) > 100
  · refine ⟨0, ?_⟩
    unfold caravanlaw14_RouteReads.f
    rw [if_pos h]
    rfl
  · refine ⟨1000400, ?_⟩
    unfold caravanlaw14_RouteReads.f
    have hr : route_Read.f s = some (readP s) := by unfold route_Read.f; rw [if_pos (by omega)]
    rw [if_neg h, hr, ref_eq s (by omega) 1000400 (by omega)]
    simp only [Option.bind_some]
    rw [if_pos trivial, if_pos trivial, if_pos trivial]
    rfl
end Go.Proofs.YtijploopgmbhfaaDoor.Pure
