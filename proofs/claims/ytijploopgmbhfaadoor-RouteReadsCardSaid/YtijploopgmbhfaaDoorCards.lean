/-
  DERIVED. GIVEN WITH THE SEED: THE CARDS: each row of YtijploopgmbhfaaDoorRows.lean that lists a variable, with what it lists TIED to the program's text (the seventh form; the later family's looks); each row that meets fmt, with fmt's text TOLD by the authors' own Lean function (tested against real Go, not proved from fmt's source: count such statements apart). THE CARD IS WHAT COUNTS. Prove the row's statement (the work); the ties are given (YtijploopgmbhfaaDoorTie.lean); close each card by the builder's one call (the guide's Derived/Test/ToyasCard.lean, 'card_holds'). Laid BY PROGRAM, IN A SANDBOX (cutbox-door.mjs). By AI agents, Wed Nov 11 2026. No macro, syntax, notation, axiom, sorry.
-/
import Derived.Test.YtijploopgmbhfaaDoorRows
import GoSem.ClaimSeven
namespace Go.Proofs.YtijploopgmbhfaaDoor
namespace Rows

/-- THE TIED CARD OF 'caravanlaw14.RouteAll'. -/
def routeAllCard : Claim7 := { stood := { row := routeAllRow, standIns := [], harness := (true, "b04d3b37c4afa3f8c6bace19af575fa8ad93e1a018925608d744555aeddf8554"), looks := true }, kinds := [], alts := [], laidByText := true, laidKinds := [.data, .data, .data, .data, .sentinel, .sentinel, .pinned], laidTests := true, laidLooks := .later }
def RouteAllCardSaid : Prop := Claim7.holds Tryd.pinned (.plain (OpenSpec.ofChange routeAllSpec)) routeAllCard

/-- THE TIED CARD OF 'caravanlaw14.RouteReads'. -/
def routeReadsCard : Claim7 := { stood := { row := routeReadsRow, standIns := [], harness := (true, "b04d3b37c4afa3f8c6bace19af575fa8ad93e1a018925608d744555aeddf8554"), looks := true }, kinds := [], alts := [], laidByText := true, laidKinds := [.data, .data, .data, .data, .sentinel, .sentinel, .pinned], laidTests := true, laidLooks := .later }
def RouteReadsCardSaid : Prop := Claim7.holds Tryd.pinned (.plain (OpenSpec.ofChange routeReadsSpec)) routeReadsCard

/-- THE TIED CARD OF 'caravanlaw14.RouteMade'. -/
def routeMadeCard : Claim7 := { stood := { row := routeMadeRow, standIns := [], harness := (true, "b04d3b37c4afa3f8c6bace19af575fa8ad93e1a018925608d744555aeddf8554"), looks := true }, kinds := [], alts := [], laidByText := true, laidKinds := [.data, .data, .data, .data, .sentinel, .sentinel, .pinned], laidTests := true, laidLooks := .later }
def RouteMadeCardSaid : Prop := Claim7.holds Tryd.pinned (.plain (OpenSpec.ofChange routeMadeSpec)) routeMadeCard

/-- THE TIED CARD OF 'caravanlaw14.RouteOwner'. -/
def routeOwnerCard : Claim7 := { stood := { row := routeOwnerRow, standIns := [], harness := (true, "b04d3b37c4afa3f8c6bace19af575fa8ad93e1a018925608d744555aeddf8554"), looks := true }, kinds := [], alts := [], laidByText := true, laidKinds := [.data, .data, .data, .data, .sentinel, .sentinel, .pinned], laidTests := true, laidLooks := .later }
def RouteOwnerCardSaid : Prop := Claim7.holds Tryd.pinned (.plain (OpenSpec.ofChange routeOwnerSpec)) routeOwnerCard

/-- THE TIED CARD OF 'caravanlaw14.RouteCross'. -/
def routeCrossCard : Claim7 := { stood := { row := routeCrossRow, standIns := [], harness := (true, "b04d3b37c4afa3f8c6bace19af575fa8ad93e1a018925608d744555aeddf8554"), looks := true }, kinds := [], alts := [], laidByText := true, laidKinds := [.data, .data, .data, .data, .sentinel, .sentinel, .pinned], laidTests := true, laidLooks := .later }
def RouteCrossCardSaid : Prop := Claim7.holds Tryd.pinned (.plain (OpenSpec.ofChange routeCrossSpec)) routeCrossCard

/-- THE SECOND FORM's CARD OF 'caravanlaw14.RouteAll'. -/
def routeAllUptoCard : Claim7 := { stood := { row := routeAllUptoRow, standIns := [], harness := (true, "b04d3b37c4afa3f8c6bace19af575fa8ad93e1a018925608d744555aeddf8554"), looks := true }, kinds := [], alts := [], laidByText := true, laidKinds := [.data, .data, .data, .data, .sentinel, .sentinel, .pinned], laidTests := true, laidLooks := .later }
def RouteAllUptoCardSaid : Prop := Claim7.holds Tryd.pinned (.plain (OpenSpec.upto routeAllSpec)) routeAllUptoCard

/-- THE SECOND FORM's CARD OF 'caravanlaw14.RouteReads'. -/
def routeReadsUptoCard : Claim7 := { stood := { row := routeReadsUptoRow, standIns := [], harness := (true, "b04d3b37c4afa3f8c6bace19af575fa8ad93e1a018925608d744555aeddf8554"), looks := true }, kinds := [], alts := [], laidByText := true, laidKinds := [.data, .data, .data, .data, .sentinel, .sentinel, .pinned], laidTests := true, laidLooks := .later }
def RouteReadsUptoCardSaid : Prop := Claim7.holds Tryd.pinned (.plain (OpenSpec.upto routeReadsSpec)) routeReadsUptoCard

/-- THE SECOND FORM's CARD OF 'caravanlaw14.RouteMade'. -/
def routeMadeUptoCard : Claim7 := { stood := { row := routeMadeUptoRow, standIns := [], harness := (true, "b04d3b37c4afa3f8c6bace19af575fa8ad93e1a018925608d744555aeddf8554"), looks := true }, kinds := [], alts := [], laidByText := true, laidKinds := [.data, .data, .data, .data, .sentinel, .sentinel, .pinned], laidTests := true, laidLooks := .later }
def RouteMadeUptoCardSaid : Prop := Claim7.holds Tryd.pinned (.plain (OpenSpec.upto routeMadeSpec)) routeMadeUptoCard

/-- THE SECOND FORM's CARD OF 'caravanlaw14.RouteOwner'. -/
def routeOwnerUptoCard : Claim7 := { stood := { row := routeOwnerUptoRow, standIns := [], harness := (true, "b04d3b37c4afa3f8c6bace19af575fa8ad93e1a018925608d744555aeddf8554"), looks := true }, kinds := [], alts := [], laidByText := true, laidKinds := [.data, .data, .data, .data, .sentinel, .sentinel, .pinned], laidTests := true, laidLooks := .later }
def RouteOwnerUptoCardSaid : Prop := Claim7.holds Tryd.pinned (.plain (OpenSpec.upto routeOwnerSpec)) routeOwnerUptoCard

/-- THE SECOND FORM's CARD OF 'caravanlaw14.RouteCross'. -/
def routeCrossUptoCard : Claim7 := { stood := { row := routeCrossUptoRow, standIns := [], harness := (true, "b04d3b37c4afa3f8c6bace19af575fa8ad93e1a018925608d744555aeddf8554"), looks := true }, kinds := [], alts := [], laidByText := true, laidKinds := [.data, .data, .data, .data, .sentinel, .sentinel, .pinned], laidTests := true, laidLooks := .later }
def RouteCrossUptoCardSaid : Prop := Claim7.holds Tryd.pinned (.plain (OpenSpec.upto routeCrossSpec)) routeCrossUptoCard
end Rows
end Go.Proofs.YtijploopgmbhfaaDoor
