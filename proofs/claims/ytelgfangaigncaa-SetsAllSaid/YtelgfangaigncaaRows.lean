/-
  No cell of these rows narrows 'for every input' (looked for: loops, veiled, ifaces, maps, wideKeys, modest, calm, conditions, laid).
  DERIVED. THE GIVEN ROWS OF THIS SEAT. 4 by the template 'for every input the law returns true; each argument reads behind the call as it read before'; 0 by the template 'total and deterministic' (their statements: YtelgfangaigncaaTotals.lean).
  GIVEN WITH THE SEED: the statements are not yours to turn. If you find one false, say at which input.
  Laid BY PROGRAM, IN A SANDBOX (cutbox-rows.mjs): the forced cells as the released guide's own fill.sh prints them over the translation 9396141ef7eab33e… (all of the seat's roots in one cut). By AI agents, Wed Nov 11 2026. No macro, syntax, notation, axiom, sorry.
-/
import Derived.Test.YtelgfangaigncaaChecked
import GoSem.Claim
import GoSem.ClaimJoined
import GoSem.ClaimMapViews
import Derived.JoinedTies
import Derived.KernelRfl
namespace Go.Proofs.Ytelgfangaigncaa
/- THE CELL 'sum', in the pinned program and in every row, IS THE sha256 OF THE DUMP (.gsa) THAT YtelgfangaigncaaProg.lean LOADS. Nothing in Lean hashes anything: it is a label: what it is worth is what the hold of that sum in a sandbox is worth. -/
noncomputable def Try.pinned : Pinned := { name := "ytelgfangaigncaa", sum := "9396141ef7eab33e6590e999d3a557e0984e2f50a394cc89376f11be024f86ce", checked := Try.checked }
namespace Rows
def none {H : Type} : Left H := { results := [], args := [] }

/-- 'caravanlaw9.SetsLaws': WHATEVER THE INPUT: true; the input reads as it did. -/
def setsLawsSpec : ChangeSpec := { name := "setsLaws", fn := fun _ => fun
  | [d1, d2, d3] => { results := [.lit (.bool true)], args := [d1, d2, d3] }
  | _ => none }
def setsLawsRow : OpenClaim := { program := "ytelgfangaigncaa", sum := "9396141ef7eab33e6590e999d3a557e0984e2f50a394cc89376f11be024f86ce", func := "caravan/caravanlaw9.SetsLaws", spec := "setsLaws", unfollowed := true, recurses := true, apart := false }
def SetsLawsSaid : Prop := setsLawsRow.holds Try.pinned (OpenSpec.ofChange setsLawsSpec)

/-- ITS FALSE NEIGHBOUR: 'it returns false'. Refute it at one input. -/
def setsLawsWrong : ChangeSpec := { name := "setsLaws", fn := fun _ => fun
  | [d1, d2, d3] => { results := [.lit (.bool false)], args := [d1, d2, d3] }
  | _ => none }
def SetsLawsWrongFalsely : Prop := setsLawsRow.holds Try.pinned (OpenSpec.ofChange setsLawsWrong)

/-- 'caravanlaw9.SetsOrder': WHATEVER THE INPUT: true; the input reads as it did. -/
def setsOrderSpec : ChangeSpec := { name := "setsOrder", fn := fun _ => fun
  | [d1, d2, d3] => { results := [.lit (.bool true)], args := [d1, d2, d3] }
  | _ => none }
def setsOrderRow : OpenClaim := { program := "ytelgfangaigncaa", sum := "9396141ef7eab33e6590e999d3a557e0984e2f50a394cc89376f11be024f86ce", func := "caravan/caravanlaw9.SetsOrder", spec := "setsOrder", unfollowed := true, recurses := true, apart := false }
def SetsOrderSaid : Prop := setsOrderRow.holds Try.pinned (OpenSpec.ofChange setsOrderSpec)

/-- ITS FALSE NEIGHBOUR: 'it returns false'. Refute it at one input. -/
def setsOrderWrong : ChangeSpec := { name := "setsOrder", fn := fun _ => fun
  | [d1, d2, d3] => { results := [.lit (.bool false)], args := [d1, d2, d3] }
  | _ => none }
def SetsOrderWrongFalsely : Prop := setsOrderRow.holds Try.pinned (OpenSpec.ofChange setsOrderWrong)

/-- 'caravanlaw9.SetsAll': WHATEVER THE INPUT: true; the input reads as it did. -/
def setsAllSpec : ChangeSpec := { name := "setsAll", fn := fun _ => fun
  | [d1, d2] => { results := [.lit (.bool true)], args := [d1, d2] }
  | _ => none }
def setsAllRow : OpenClaim := { program := "ytelgfangaigncaa", sum := "9396141ef7eab33e6590e999d3a557e0984e2f50a394cc89376f11be024f86ce", func := "caravan/caravanlaw9.SetsAll", spec := "setsAll", unfollowed := true, recurses := true, apart := false }
def SetsAllSaid : Prop := setsAllRow.holds Try.pinned (OpenSpec.ofChange setsAllSpec)

/-- ITS FALSE NEIGHBOUR: 'it returns false'. Refute it at one input. -/
def setsAllWrong : ChangeSpec := { name := "setsAll", fn := fun _ => fun
  | [d1, d2] => { results := [.lit (.bool false)], args := [d1, d2] }
  | _ => none }
def SetsAllWrongFalsely : Prop := setsAllRow.holds Try.pinned (OpenSpec.ofChange setsAllWrong)

/-- 'caravanlaw9.SetsCount': WHATEVER THE INPUT: true; the input reads as it did. -/
def setsCountSpec : ChangeSpec := { name := "setsCount", fn := fun _ => fun
  | [d1, d2, d3] => { results := [.lit (.bool true)], args := [d1, d2, d3] }
  | _ => none }
def setsCountRow : OpenClaim := { program := "ytelgfangaigncaa", sum := "9396141ef7eab33e6590e999d3a557e0984e2f50a394cc89376f11be024f86ce", func := "caravan/caravanlaw9.SetsCount", spec := "setsCount", unfollowed := true, recurses := true, apart := false }
def SetsCountSaid : Prop := setsCountRow.holds Try.pinned (OpenSpec.ofChange setsCountSpec)

/-- ITS FALSE NEIGHBOUR: 'it returns false'. Refute it at one input. -/
def setsCountWrong : ChangeSpec := { name := "setsCount", fn := fun _ => fun
  | [d1, d2, d3] => { results := [.lit (.bool false)], args := [d1, d2, d3] }
  | _ => none }
def SetsCountWrongFalsely : Prop := setsCountRow.holds Try.pinned (OpenSpec.ofChange setsCountWrong)

/- THE SECOND FORM. 'bulk': how many values and letters a reading holds, each counted each time it is reached (what is shared counts as often as it is met; a slice's spare places count too). A statement '..UptoSaid' is the law's where the arguments, and the package variables that the reading takes, are together of bulk at most 1048576: NARROWER than '..Said'. Prove '..Said' where nothing that the law and all that it calls make is longer than what came in: it says more and counts as full. Else prove '..UptoSaid'. A law counts once. -/
mutual
def uptoBulk {H : Type} : DataW H → Nat
  | .lit (.string bytes) => bytes.length + 1
  | .lit _ => 1
  | .nil => 1
  | .ptr d => uptoBulk d + 1
  | .slice elems spare => uptoBulkAll elems + uptoBulkAll spare + 1
  | .agg parts => uptoBulkAll parts + 1
  | .iface _ d => uptoBulk d + 1
  | .map entries => uptoBulkEntries entries + 1
  | .held _ => 1
def uptoBulkAll {H : Type} : List (DataW H) → Nat
  | [] => 0
  | d :: r => uptoBulk d + uptoBulkAll r
def uptoBulkEntries {H : Type} : List (Lit × DataW H) → Nat
  | [] => 0
  | x :: r => uptoBulkEntry x + uptoBulkEntries r
def uptoBulkEntry {H : Type} : Lit × DataW H → Nat
  | (.string bytes, d) => bytes.length + uptoBulk d + 1
  | (_, d) => uptoBulk d + 1
 end
def uptoSmall : (H : Type) → List (DataW H) → Bool := fun _ ds => decide (uptoBulkAll ds ≤ 1048576)
def OpenSpec.upto (s : _root_.Go.ChangeSpec) : _root_.Go.OpenSpec := { _root_.Go.OpenSpec.ofChange s with cond := some uptoSmall }

/-- 'caravanlaw9.SetsLaws', WHERE WHAT IT READS IS OF BULK AT MOST 1048576: true; the input reads as it did. -/
def setsLawsUptoRow : OpenClaim := { program := "ytelgfangaigncaa", sum := "9396141ef7eab33e6590e999d3a557e0984e2f50a394cc89376f11be024f86ce", func := "caravan/caravanlaw9.SetsLaws", spec := "setsLaws", unfollowed := true, recurses := true, apart := false, narrowed := true }
def SetsLawsUptoSaid : Prop := setsLawsUptoRow.holds Try.pinned (OpenSpec.upto setsLawsSpec)

/-- 'caravanlaw9.SetsOrder', WHERE WHAT IT READS IS OF BULK AT MOST 1048576: true; the input reads as it did. -/
def setsOrderUptoRow : OpenClaim := { program := "ytelgfangaigncaa", sum := "9396141ef7eab33e6590e999d3a557e0984e2f50a394cc89376f11be024f86ce", func := "caravan/caravanlaw9.SetsOrder", spec := "setsOrder", unfollowed := true, recurses := true, apart := false, narrowed := true }
def SetsOrderUptoSaid : Prop := setsOrderUptoRow.holds Try.pinned (OpenSpec.upto setsOrderSpec)

/-- 'caravanlaw9.SetsAll', WHERE WHAT IT READS IS OF BULK AT MOST 1048576: true; the input reads as it did. -/
def setsAllUptoRow : OpenClaim := { program := "ytelgfangaigncaa", sum := "9396141ef7eab33e6590e999d3a557e0984e2f50a394cc89376f11be024f86ce", func := "caravan/caravanlaw9.SetsAll", spec := "setsAll", unfollowed := true, recurses := true, apart := false, narrowed := true }
def SetsAllUptoSaid : Prop := setsAllUptoRow.holds Try.pinned (OpenSpec.upto setsAllSpec)

/-- 'caravanlaw9.SetsCount', WHERE WHAT IT READS IS OF BULK AT MOST 1048576: true; the input reads as it did. -/
def setsCountUptoRow : OpenClaim := { program := "ytelgfangaigncaa", sum := "9396141ef7eab33e6590e999d3a557e0984e2f50a394cc89376f11be024f86ce", func := "caravan/caravanlaw9.SetsCount", spec := "setsCount", unfollowed := true, recurses := true, apart := false, narrowed := true }
def SetsCountUptoSaid : Prop := setsCountUptoRow.holds Try.pinned (OpenSpec.upto setsCountSpec)

end Rows
end Go.Proofs.Ytelgfangaigncaa
