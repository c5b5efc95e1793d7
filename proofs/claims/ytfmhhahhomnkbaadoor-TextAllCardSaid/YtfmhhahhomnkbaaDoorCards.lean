/-
  DERIVED. GIVEN WITH THE SEED: THE CARDS: each row of YtfmhhahhomnkbaaDoorRows.lean that lists a variable, with what it lists TIED to the program's text (the seventh form; the later family's looks); each row that meets fmt, with fmt's text TOLD by the authors' own Lean function (tested against real Go, not proved from fmt's source: count such statements apart). THE CARD IS WHAT COUNTS. Prove the row's statement (the work); the ties are given (YtfmhhahhomnkbaaDoorTie.lean); close each card by the builder's one call (the guide's Derived/Test/ToyasCard.lean, 'card_holds'). Laid BY PROGRAM, IN A SANDBOX (cutbox-door.mjs). By AI agents, Wed Nov 11 2026. No macro, syntax, notation, axiom, sorry.
-/
import Derived.Test.YtfmhhahhomnkbaaDoorRows
import GoSem.ClaimSeven
namespace Go.Proofs.YtfmhhahhomnkbaaDoor
namespace Rows

/-- THE TIED CARD OF 'caravanlaw6.TextNumbers'. -/
def textNumbersCard : Claim7 := { stood := { row := textNumbersRow, standIns := [], harness := (true, "c19656e5a914bf97356646db1e1aa4099df4cede5a2f8ffe41ba5d8a3a6d8926"), looks := true }, kinds := [], alts := [], laidByText := true, laidKinds := [.data, .data, .data, .sentinel, .sentinel], laidTests := true, laidLooks := .later }
def TextNumbersCardSaid : Prop := Claim7.holds Tryd.pinned (.plain (OpenSpec.ofChange textNumbersSpec)) textNumbersCard

/-- THE TIED CARD OF 'caravanlaw6.TextAdds'. -/
def textAddsCard : Claim7 := { stood := { row := textAddsRow, standIns := [], harness := (true, "c19656e5a914bf97356646db1e1aa4099df4cede5a2f8ffe41ba5d8a3a6d8926"), looks := true }, kinds := [], alts := [], laidByText := true, laidKinds := [.data, .data, .data, .sentinel, .sentinel], laidTests := true, laidLooks := .later }
def TextAddsCardSaid : Prop := Claim7.holds Tryd.pinned (.plain (OpenSpec.ofChange textAddsSpec)) textAddsCard

/-- THE TIED CARD OF 'caravanlaw6.TextOrder'. -/
def textOrderCard : Claim7 := { stood := { row := textOrderRow, standIns := [], harness := (true, "c19656e5a914bf97356646db1e1aa4099df4cede5a2f8ffe41ba5d8a3a6d8926"), looks := true }, kinds := [], alts := [], laidByText := true, laidKinds := [.data, .data, .data, .sentinel, .sentinel], laidTests := true, laidLooks := .later }
def TextOrderCardSaid : Prop := Claim7.holds Tryd.pinned (.plain (OpenSpec.ofChange textOrderSpec)) textOrderCard

/-- THE TIED CARD OF 'caravanlaw6.TextAll'. -/
def textAllCard : Claim7 := { stood := { row := textAllRow, standIns := [], harness := (true, "c19656e5a914bf97356646db1e1aa4099df4cede5a2f8ffe41ba5d8a3a6d8926"), looks := true }, kinds := [], alts := [], laidByText := true, laidKinds := [.data, .data, .data, .sentinel, .sentinel], laidTests := true, laidLooks := .later }
def TextAllCardSaid : Prop := Claim7.holds Tryd.pinned (.plain (OpenSpec.ofChange textAllSpec)) textAllCard

/-- THE SECOND FORM's CARD OF 'caravanlaw6.TextNumbers'. -/
def textNumbersUptoCard : Claim7 := { stood := { row := textNumbersUptoRow, standIns := [], harness := (true, "c19656e5a914bf97356646db1e1aa4099df4cede5a2f8ffe41ba5d8a3a6d8926"), looks := true }, kinds := [], alts := [], laidByText := true, laidKinds := [.data, .data, .data, .sentinel, .sentinel], laidTests := true, laidLooks := .later }
def TextNumbersUptoCardSaid : Prop := Claim7.holds Tryd.pinned (.plain (OpenSpec.upto textNumbersSpec)) textNumbersUptoCard

/-- THE SECOND FORM's CARD OF 'caravanlaw6.TextAdds'. -/
def textAddsUptoCard : Claim7 := { stood := { row := textAddsUptoRow, standIns := [], harness := (true, "c19656e5a914bf97356646db1e1aa4099df4cede5a2f8ffe41ba5d8a3a6d8926"), looks := true }, kinds := [], alts := [], laidByText := true, laidKinds := [.data, .data, .data, .sentinel, .sentinel], laidTests := true, laidLooks := .later }
def TextAddsUptoCardSaid : Prop := Claim7.holds Tryd.pinned (.plain (OpenSpec.upto textAddsSpec)) textAddsUptoCard

/-- THE SECOND FORM's CARD OF 'caravanlaw6.TextOrder'. -/
def textOrderUptoCard : Claim7 := { stood := { row := textOrderUptoRow, standIns := [], harness := (true, "c19656e5a914bf97356646db1e1aa4099df4cede5a2f8ffe41ba5d8a3a6d8926"), looks := true }, kinds := [], alts := [], laidByText := true, laidKinds := [.data, .data, .data, .sentinel, .sentinel], laidTests := true, laidLooks := .later }
def TextOrderUptoCardSaid : Prop := Claim7.holds Tryd.pinned (.plain (OpenSpec.upto textOrderSpec)) textOrderUptoCard

/-- THE SECOND FORM's CARD OF 'caravanlaw6.TextAll'. -/
def textAllUptoCard : Claim7 := { stood := { row := textAllUptoRow, standIns := [], harness := (true, "c19656e5a914bf97356646db1e1aa4099df4cede5a2f8ffe41ba5d8a3a6d8926"), looks := true }, kinds := [], alts := [], laidByText := true, laidKinds := [.data, .data, .data, .sentinel, .sentinel], laidTests := true, laidLooks := .later }
def TextAllUptoCardSaid : Prop := Claim7.holds Tryd.pinned (.plain (OpenSpec.upto textAllSpec)) textAllUptoCard
end Rows
end Go.Proofs.YtfmhhahhomnkbaaDoor
