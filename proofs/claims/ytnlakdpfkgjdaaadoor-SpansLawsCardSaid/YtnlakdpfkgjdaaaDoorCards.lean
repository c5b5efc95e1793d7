/-
  DERIVED. GIVEN WITH THE SEED: THE CARDS: each row of YtnlakdpfkgjdaaaDoorRows.lean that lists a variable, with what it lists TIED to the program's text (the seventh form; the later family's looks); each row that meets fmt, with fmt's text TOLD by the authors' own Lean function (tested against real Go, not proved from fmt's source: count such statements apart). THE CARD IS WHAT COUNTS. Prove the row's statement (the work); the ties are given (YtnlakdpfkgjdaaaDoorTie.lean); close each card by the builder's one call (the guide's Derived/Test/ToyasCard.lean, 'card_holds'). Laid BY PROGRAM, IN A SANDBOX (cutbox-door.mjs). By AI agents, Wed Nov 11 2026. No macro, syntax, notation, axiom, sorry.
-/
import Derived.Test.YtnlakdpfkgjdaaaDoorRows
import GoSem.ClaimSeven
namespace Go.Proofs.YtnlakdpfkgjdaaaDoor
namespace Rows

/-- THE TIED CARD OF 'caravanlaw2.SpansTexts'. -/
def spansTextsCard : Claim7 := { stood := { row := spansTextsRow, standIns := [], harness := (true, "d72900064b8f22a1854539b66521d0ee296d4f79c6bd6e8b7a75999fc7e38e06"), looks := true }, kinds := [], alts := [], laidByText := true, laidKinds := [.data, .data, .data, .data, .sentinel, .sentinel, .pinned], laidTests := true, laidLooks := .later }
def SpansTextsCardSaid : Prop := Claim7.holds Tryd.pinned (.plain (OpenSpec.ofChange spansTextsSpec)) spansTextsCard

/-- THE TIED CARD OF 'caravanlaw2.SpansRead'. -/
def spansReadCard : Claim7 := { stood := { row := spansReadRow, standIns := [], harness := (true, "d72900064b8f22a1854539b66521d0ee296d4f79c6bd6e8b7a75999fc7e38e06"), looks := true }, kinds := [], alts := [], laidByText := true, laidKinds := [.data, .data, .data, .data, .sentinel, .sentinel, .pinned], laidTests := true, laidLooks := .later }
def SpansReadCardSaid : Prop := Claim7.holds Tryd.pinned (.plain (OpenSpec.ofChange spansReadSpec)) spansReadCard

/-- THE TIED CARD OF 'caravanlaw2.SpansAll'. -/
def spansAllCard : Claim7 := { stood := { row := spansAllRow, standIns := [], harness := (true, "d72900064b8f22a1854539b66521d0ee296d4f79c6bd6e8b7a75999fc7e38e06"), looks := true }, kinds := [], alts := [], laidByText := true, laidKinds := [.data, .data, .data, .data, .sentinel, .sentinel, .pinned], laidTests := true, laidLooks := .later }
def SpansAllCardSaid : Prop := Claim7.holds Tryd.pinned (.plain (OpenSpec.ofChange spansAllSpec)) spansAllCard

/-- THE TIED CARD OF 'caravanlaw2.SpansSlots'. -/
def spansSlotsCard : Claim7 := { stood := { row := spansSlotsRow, standIns := [], harness := (true, "d72900064b8f22a1854539b66521d0ee296d4f79c6bd6e8b7a75999fc7e38e06"), looks := true }, kinds := [], alts := [], laidByText := true, laidKinds := [.data, .data, .data, .data, .sentinel, .sentinel, .pinned], laidTests := true, laidLooks := .later }
def SpansSlotsCardSaid : Prop := Claim7.holds Tryd.pinned (.plain (OpenSpec.ofChange spansSlotsSpec)) spansSlotsCard

/-- THE TIED CARD OF 'caravanlaw2.SpansMix'. -/
def spansMixCard : Claim7 := { stood := { row := spansMixRow, standIns := [], harness := (true, "d72900064b8f22a1854539b66521d0ee296d4f79c6bd6e8b7a75999fc7e38e06"), looks := true }, kinds := [], alts := [], laidByText := true, laidKinds := [.data, .data, .data, .data, .sentinel, .sentinel, .pinned], laidTests := true, laidLooks := .later }
def SpansMixCardSaid : Prop := Claim7.holds Tryd.pinned (.plain (OpenSpec.ofChange spansMixSpec)) spansMixCard

/-- THE TIED CARD OF 'caravanlaw2.SpansLaws'. -/
def spansLawsCard : Claim7 := { stood := { row := spansLawsRow, standIns := [], harness := (true, "d72900064b8f22a1854539b66521d0ee296d4f79c6bd6e8b7a75999fc7e38e06"), looks := true }, kinds := [], alts := [], laidByText := true, laidKinds := [.data, .data, .data, .data, .sentinel, .sentinel, .pinned], laidTests := true, laidLooks := .later }
def SpansLawsCardSaid : Prop := Claim7.holds Tryd.pinned (.plain (OpenSpec.ofChange spansLawsSpec)) spansLawsCard

/-- THE SECOND FORM's CARD OF 'caravanlaw2.SpansTexts'. -/
def spansTextsUptoCard : Claim7 := { stood := { row := spansTextsUptoRow, standIns := [], harness := (true, "d72900064b8f22a1854539b66521d0ee296d4f79c6bd6e8b7a75999fc7e38e06"), looks := true }, kinds := [], alts := [], laidByText := true, laidKinds := [.data, .data, .data, .data, .sentinel, .sentinel, .pinned], laidTests := true, laidLooks := .later }
def SpansTextsUptoCardSaid : Prop := Claim7.holds Tryd.pinned (.plain (OpenSpec.upto spansTextsSpec)) spansTextsUptoCard

/-- THE SECOND FORM's CARD OF 'caravanlaw2.SpansRead'. -/
def spansReadUptoCard : Claim7 := { stood := { row := spansReadUptoRow, standIns := [], harness := (true, "d72900064b8f22a1854539b66521d0ee296d4f79c6bd6e8b7a75999fc7e38e06"), looks := true }, kinds := [], alts := [], laidByText := true, laidKinds := [.data, .data, .data, .data, .sentinel, .sentinel, .pinned], laidTests := true, laidLooks := .later }
def SpansReadUptoCardSaid : Prop := Claim7.holds Tryd.pinned (.plain (OpenSpec.upto spansReadSpec)) spansReadUptoCard

/-- THE SECOND FORM's CARD OF 'caravanlaw2.SpansAll'. -/
def spansAllUptoCard : Claim7 := { stood := { row := spansAllUptoRow, standIns := [], harness := (true, "d72900064b8f22a1854539b66521d0ee296d4f79c6bd6e8b7a75999fc7e38e06"), looks := true }, kinds := [], alts := [], laidByText := true, laidKinds := [.data, .data, .data, .data, .sentinel, .sentinel, .pinned], laidTests := true, laidLooks := .later }
def SpansAllUptoCardSaid : Prop := Claim7.holds Tryd.pinned (.plain (OpenSpec.upto spansAllSpec)) spansAllUptoCard

/-- THE SECOND FORM's CARD OF 'caravanlaw2.SpansSlots'. -/
def spansSlotsUptoCard : Claim7 := { stood := { row := spansSlotsUptoRow, standIns := [], harness := (true, "d72900064b8f22a1854539b66521d0ee296d4f79c6bd6e8b7a75999fc7e38e06"), looks := true }, kinds := [], alts := [], laidByText := true, laidKinds := [.data, .data, .data, .data, .sentinel, .sentinel, .pinned], laidTests := true, laidLooks := .later }
def SpansSlotsUptoCardSaid : Prop := Claim7.holds Tryd.pinned (.plain (OpenSpec.upto spansSlotsSpec)) spansSlotsUptoCard

/-- THE SECOND FORM's CARD OF 'caravanlaw2.SpansMix'. -/
def spansMixUptoCard : Claim7 := { stood := { row := spansMixUptoRow, standIns := [], harness := (true, "d72900064b8f22a1854539b66521d0ee296d4f79c6bd6e8b7a75999fc7e38e06"), looks := true }, kinds := [], alts := [], laidByText := true, laidKinds := [.data, .data, .data, .data, .sentinel, .sentinel, .pinned], laidTests := true, laidLooks := .later }
def SpansMixUptoCardSaid : Prop := Claim7.holds Tryd.pinned (.plain (OpenSpec.upto spansMixSpec)) spansMixUptoCard

/-- THE SECOND FORM's CARD OF 'caravanlaw2.SpansLaws'. -/
def spansLawsUptoCard : Claim7 := { stood := { row := spansLawsUptoRow, standIns := [], harness := (true, "d72900064b8f22a1854539b66521d0ee296d4f79c6bd6e8b7a75999fc7e38e06"), looks := true }, kinds := [], alts := [], laidByText := true, laidKinds := [.data, .data, .data, .data, .sentinel, .sentinel, .pinned], laidTests := true, laidLooks := .later }
def SpansLawsUptoCardSaid : Prop := Claim7.holds Tryd.pinned (.plain (OpenSpec.upto spansLawsSpec)) spansLawsUptoCard
end Rows
end Go.Proofs.YtnlakdpfkgjdaaaDoor
