/-
  No cell of these rows narrows 'for every input' (looked for: loops, veiled, ifaces, maps, wideKeys, modest, calm, conditions, laid).
  DERIVED. THE GIVEN ROWS OF THIS SEAT. 4 by the template 'for every input the law returns true; each argument reads behind the call as it read before'; 0 by the template 'total and deterministic' (their statements: YtjdpmjpfhcdcfaaTotals.lean).
  GIVEN WITH THE SEED: the statements are not yours to turn. If you find one false, say at which input.
  Laid BY PROGRAM, IN A SANDBOX (cutbox-rows.mjs): the forced cells as the released guide's own fill.sh prints them over the translation b36642512c2a3623… (all of the seat's roots in one cut). By AI agents, Wed Nov 11 2026. No macro, syntax, notation, axiom, sorry.
-/
import Derived.Test.YtjdpmjpfhcdcfaaChecked
import GoSem.Claim
import GoSem.ClaimJoined
import GoSem.ClaimMapViews
import Derived.JoinedTies
import Derived.KernelRfl
namespace Go.Proofs.Ytjdpmjpfhcdcfaa
/- THE CELL 'sum', in the pinned program and in every row, IS THE sha256 OF THE DUMP (.gsa) THAT YtjdpmjpfhcdcfaaProg.lean LOADS. Nothing in Lean hashes anything: it is a label: what it is worth is what the hold of that sum in a sandbox is worth. -/
noncomputable def Try.pinned : Pinned := { name := "ytjdpmjpfhcdcfaa", sum := "b36642512c2a36239742d45f8b5853204ee5befa21d92aa10d2980fb2b3ead6f", checked := Try.checked }
namespace Rows
def none {H : Type} : Left H := { results := [], args := [] }

/-- 'caravanlaw4.CmdAll': WHATEVER THE INPUT: true; the input reads as it did. -/
def cmdAllSpec : ChangeSpec := { name := "cmdAll", fn := fun _ => fun
  | [d1, d2] => { results := [.lit (.bool true)], args := [d1, d2] }
  | _ => none }
def cmdAllRow : OpenClaim := { program := "ytjdpmjpfhcdcfaa", sum := "b36642512c2a36239742d45f8b5853204ee5befa21d92aa10d2980fb2b3ead6f", func := "caravan/caravanlaw4.CmdAll", spec := "cmdAll", unfollowed := true, recurses := true, apart := false }
def CmdAllSaid : Prop := cmdAllRow.holds Try.pinned (OpenSpec.ofChange cmdAllSpec)

/-- ITS FALSE NEIGHBOUR: 'it returns false'. Refute it at one input. -/
def cmdAllWrong : ChangeSpec := { name := "cmdAll", fn := fun _ => fun
  | [d1, d2] => { results := [.lit (.bool false)], args := [d1, d2] }
  | _ => none }
def CmdAllWrongFalsely : Prop := cmdAllRow.holds Try.pinned (OpenSpec.ofChange cmdAllWrong)

/-- 'caravanlaw4.CmdPairs': WHATEVER THE INPUT: true; the input reads as it did. -/
def cmdPairsSpec : ChangeSpec := { name := "cmdPairs", fn := fun _ => fun
  | [d1, d2, d3] => { results := [.lit (.bool true)], args := [d1, d2, d3] }
  | _ => none }
def cmdPairsRow : OpenClaim := { program := "ytjdpmjpfhcdcfaa", sum := "b36642512c2a36239742d45f8b5853204ee5befa21d92aa10d2980fb2b3ead6f", func := "caravan/caravanlaw4.CmdPairs", spec := "cmdPairs", unfollowed := true, recurses := true, apart := false }
def CmdPairsSaid : Prop := cmdPairsRow.holds Try.pinned (OpenSpec.ofChange cmdPairsSpec)

/-- ITS FALSE NEIGHBOUR: 'it returns false'. Refute it at one input. -/
def cmdPairsWrong : ChangeSpec := { name := "cmdPairs", fn := fun _ => fun
  | [d1, d2, d3] => { results := [.lit (.bool false)], args := [d1, d2, d3] }
  | _ => none }
def CmdPairsWrongFalsely : Prop := cmdPairsRow.holds Try.pinned (OpenSpec.ofChange cmdPairsWrong)

/-- 'caravanlaw4.CmdNames': WHATEVER THE INPUT: true; the input reads as it did. -/
def cmdNamesSpec : ChangeSpec := { name := "cmdNames", fn := fun _ => fun
  | [d1, d2] => { results := [.lit (.bool true)], args := [d1, d2] }
  | _ => none }
def cmdNamesRow : OpenClaim := { program := "ytjdpmjpfhcdcfaa", sum := "b36642512c2a36239742d45f8b5853204ee5befa21d92aa10d2980fb2b3ead6f", func := "caravan/caravanlaw4.CmdNames", spec := "cmdNames", unfollowed := true, recurses := true, apart := false }
def CmdNamesSaid : Prop := cmdNamesRow.holds Try.pinned (OpenSpec.ofChange cmdNamesSpec)

/-- ITS FALSE NEIGHBOUR: 'it returns false'. Refute it at one input. -/
def cmdNamesWrong : ChangeSpec := { name := "cmdNames", fn := fun _ => fun
  | [d1, d2] => { results := [.lit (.bool false)], args := [d1, d2] }
  | _ => none }
def CmdNamesWrongFalsely : Prop := cmdNamesRow.holds Try.pinned (OpenSpec.ofChange cmdNamesWrong)

/-- 'caravanlaw4.CmdKeys': WHATEVER THE INPUT: true; the input reads as it did. -/
def cmdKeysSpec : ChangeSpec := { name := "cmdKeys", fn := fun _ => fun
  | [d1, d2] => { results := [.lit (.bool true)], args := [d1, d2] }
  | _ => none }
def cmdKeysRow : OpenClaim := { program := "ytjdpmjpfhcdcfaa", sum := "b36642512c2a36239742d45f8b5853204ee5befa21d92aa10d2980fb2b3ead6f", func := "caravan/caravanlaw4.CmdKeys", spec := "cmdKeys", unfollowed := true, recurses := true, apart := false }
def CmdKeysSaid : Prop := cmdKeysRow.holds Try.pinned (OpenSpec.ofChange cmdKeysSpec)

/-- ITS FALSE NEIGHBOUR: 'it returns false'. Refute it at one input. -/
def cmdKeysWrong : ChangeSpec := { name := "cmdKeys", fn := fun _ => fun
  | [d1, d2] => { results := [.lit (.bool false)], args := [d1, d2] }
  | _ => none }
def CmdKeysWrongFalsely : Prop := cmdKeysRow.holds Try.pinned (OpenSpec.ofChange cmdKeysWrong)

/- THE SECOND FORM. 'bulk': how many values and letters a reading holds, each counted each time it is reached (what is shared counts as often as it is met; a slice's spare places count too). A statement '..UptoSaid' is the law's where the arguments, and the package variables that the reading takes, are together of bulk at most 1048576: NARROWER than '..Said'. Prove '..Said' where nothing that the law and all that it calls make is longer than what came in: it says more and counts as full. Else prove '..UptoSaid'. A law counts once. -/
mutual
def uptoBulk {H : Type} : DataW H → Nat
  | .lit (.string bytes) => bytes.length + 1
  | .lit _ => 1
  | .nil => 1
  | .ptr d => uptoBulk d + 1
  | .slice elems spare => uptoBulkAll elems + uptoBulkAll spare + 1
  | .agg parts => uptoBulkAll parts + 1
  | .iface _ d => uptoBulk d + 1
  | .map entries => uptoBulkEntries entries + 1
  | .held _ => 1
def uptoBulkAll {H : Type} : List (DataW H) → Nat
  | [] => 0
  | d :: r => uptoBulk d + uptoBulkAll r
def uptoBulkEntries {H : Type} : List (Lit × DataW H) → Nat
  | [] => 0
  | x :: r => uptoBulkEntry x + uptoBulkEntries r
def uptoBulkEntry {H : Type} : Lit × DataW H → Nat
  | (.string bytes, d) => bytes.length + uptoBulk d + 1
  | (_, d) => uptoBulk d + 1
 end
def uptoSmall : (H : Type) → List (DataW H) → Bool := fun _ ds => decide (uptoBulkAll ds ≤ 1048576)
def OpenSpec.upto (s : _root_.Go.ChangeSpec) : _root_.Go.OpenSpec := { _root_.Go.OpenSpec.ofChange s with cond := some uptoSmall }

/-- 'caravanlaw4.CmdAll', WHERE WHAT IT READS IS OF BULK AT MOST 1048576: true; the input reads as it did. -/
def cmdAllUptoRow : OpenClaim := { program := "ytjdpmjpfhcdcfaa", sum := "b36642512c2a36239742d45f8b5853204ee5befa21d92aa10d2980fb2b3ead6f", func := "caravan/caravanlaw4.CmdAll", spec := "cmdAll", unfollowed := true, recurses := true, apart := false, narrowed := true }
def CmdAllUptoSaid : Prop := cmdAllUptoRow.holds Try.pinned (OpenSpec.upto cmdAllSpec)

/-- 'caravanlaw4.CmdPairs', WHERE WHAT IT READS IS OF BULK AT MOST 1048576: true; the input reads as it did. -/
def cmdPairsUptoRow : OpenClaim := { program := "ytjdpmjpfhcdcfaa", sum := "b36642512c2a36239742d45f8b5853204ee5befa21d92aa10d2980fb2b3ead6f", func := "caravan/caravanlaw4.CmdPairs", spec := "cmdPairs", unfollowed := true, recurses := true, apart := false, narrowed := true }
def CmdPairsUptoSaid : Prop := cmdPairsUptoRow.holds Try.pinned (OpenSpec.upto cmdPairsSpec)

/-- 'caravanlaw4.CmdNames', WHERE WHAT IT READS IS OF BULK AT MOST 1048576: true; the input reads as it did. -/
def cmdNamesUptoRow : OpenClaim := { program := "ytjdpmjpfhcdcfaa", sum := "b36642512c2a36239742d45f8b5853204ee5befa21d92aa10d2980fb2b3ead6f", func := "caravan/caravanlaw4.CmdNames", spec := "cmdNames", unfollowed := true, recurses := true, apart := false, narrowed := true }
def CmdNamesUptoSaid : Prop := cmdNamesUptoRow.holds Try.pinned (OpenSpec.upto cmdNamesSpec)

/-- 'caravanlaw4.CmdKeys', WHERE WHAT IT READS IS OF BULK AT MOST 1048576: true; the input reads as it did. -/
def cmdKeysUptoRow : OpenClaim := { program := "ytjdpmjpfhcdcfaa", sum := "b36642512c2a36239742d45f8b5853204ee5befa21d92aa10d2980fb2b3ead6f", func := "caravan/caravanlaw4.CmdKeys", spec := "cmdKeys", unfollowed := true, recurses := true, apart := false, narrowed := true }
def CmdKeysUptoSaid : Prop := cmdKeysUptoRow.holds Try.pinned (OpenSpec.upto cmdKeysSpec)

end Rows
end Go.Proofs.Ytjdpmjpfhcdcfaa
