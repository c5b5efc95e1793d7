/-
  No cell of these rows narrows 'for every input' (looked for: loops, veiled, ifaces, maps, wideKeys, modest, calm, conditions, laid).
  DERIVED. THE GIVEN ROWS OF THIS SEAT. 5 by the template 'for every input the law returns true; each argument reads behind the call as it read before'; 0 by the template 'total and deterministic' (their statements: YtbmimcpllpgcaaaTotals.lean).
  GIVEN WITH THE SEED: the statements are not yours to turn. If you find one false, say at which input.
  Laid BY PROGRAM, IN A SANDBOX (cutbox-rows.mjs): the forced cells as the released guide's own fill.sh prints them over the translation 765b86d831e837bf… (all of the seat's roots in one cut). By AI agents, Wed Nov 11 2026. No macro, syntax, notation, axiom, sorry.
-/
import Derived.Test.YtbmimcpllpgcaaaChecked
import GoSem.Claim
import GoSem.ClaimJoined
import GoSem.ClaimMapViews
import Derived.JoinedTies
import Derived.KernelRfl
namespace Go.Proofs.Ytbmimcpllpgcaaa
/- THE CELL 'sum', in the pinned program and in every row, IS THE sha256 OF THE DUMP (.gsa) THAT YtbmimcpllpgcaaaProg.lean LOADS. Nothing in Lean hashes anything: it is a label: what it is worth is what the hold of that sum in a sandbox is worth. -/
noncomputable def Try.pinned : Pinned := { name := "ytbmimcpllpgcaaa", sum := "765b86d831e837bffbd7d724e355d0beb1af9bf703dd2c7f3a9ef9bb7ed525a7", checked := Try.checked }
namespace Rows
def none {H : Type} : Left H := { results := [], args := [] }

/-- 'caravanlaw5.ItemLimits': WHATEVER THE INPUT: true; the input reads as it did. -/
def itemLimitsSpec : ChangeSpec := { name := "itemLimits", fn := fun _ => fun
  | [d1, d2, d3, d4] => { results := [.lit (.bool true)], args := [d1, d2, d3, d4] }
  | _ => none }
def itemLimitsRow : OpenClaim := { program := "ytbmimcpllpgcaaa", sum := "765b86d831e837bffbd7d724e355d0beb1af9bf703dd2c7f3a9ef9bb7ed525a7", func := "caravan/caravanlaw5.ItemLimits", spec := "itemLimits", unfollowed := true, recurses := true, apart := false }
def ItemLimitsSaid : Prop := itemLimitsRow.holds Try.pinned (OpenSpec.ofChange itemLimitsSpec)

/-- ITS FALSE NEIGHBOUR: 'it returns false'. Refute it at one input. -/
def itemLimitsWrong : ChangeSpec := { name := "itemLimits", fn := fun _ => fun
  | [d1, d2, d3, d4] => { results := [.lit (.bool false)], args := [d1, d2, d3, d4] }
  | _ => none }
def ItemLimitsWrongFalsely : Prop := itemLimitsRow.holds Try.pinned (OpenSpec.ofChange itemLimitsWrong)

/-- 'caravanlaw5.ItemParts': WHATEVER THE INPUT: true; the input reads as it did. -/
def itemPartsSpec : ChangeSpec := { name := "itemParts", fn := fun _ => fun
  | [d1, d2] => { results := [.lit (.bool true)], args := [d1, d2] }
  | _ => none }
def itemPartsRow : OpenClaim := { program := "ytbmimcpllpgcaaa", sum := "765b86d831e837bffbd7d724e355d0beb1af9bf703dd2c7f3a9ef9bb7ed525a7", func := "caravan/caravanlaw5.ItemParts", spec := "itemParts", unfollowed := true, recurses := true, apart := false }
def ItemPartsSaid : Prop := itemPartsRow.holds Try.pinned (OpenSpec.ofChange itemPartsSpec)

/-- ITS FALSE NEIGHBOUR: 'it returns false'. Refute it at one input. -/
def itemPartsWrong : ChangeSpec := { name := "itemParts", fn := fun _ => fun
  | [d1, d2] => { results := [.lit (.bool false)], args := [d1, d2] }
  | _ => none }
def ItemPartsWrongFalsely : Prop := itemPartsRow.holds Try.pinned (OpenSpec.ofChange itemPartsWrong)

/-- 'caravanlaw5.ItemAll': WHATEVER THE INPUT: true; the input reads as it did. -/
def itemAllSpec : ChangeSpec := { name := "itemAll", fn := fun _ => fun
  | [d1, d2, d3] => { results := [.lit (.bool true)], args := [d1, d2, d3] }
  | _ => none }
def itemAllRow : OpenClaim := { program := "ytbmimcpllpgcaaa", sum := "765b86d831e837bffbd7d724e355d0beb1af9bf703dd2c7f3a9ef9bb7ed525a7", func := "caravan/caravanlaw5.ItemAll", spec := "itemAll", unfollowed := true, recurses := true, apart := false }
def ItemAllSaid : Prop := itemAllRow.holds Try.pinned (OpenSpec.ofChange itemAllSpec)

/-- ITS FALSE NEIGHBOUR: 'it returns false'. Refute it at one input. -/
def itemAllWrong : ChangeSpec := { name := "itemAll", fn := fun _ => fun
  | [d1, d2, d3] => { results := [.lit (.bool false)], args := [d1, d2, d3] }
  | _ => none }
def ItemAllWrongFalsely : Prop := itemAllRow.holds Try.pinned (OpenSpec.ofChange itemAllWrong)

/-- 'caravanlaw5.ItemMade': WHATEVER THE INPUT: true; the input reads as it did. -/
def itemMadeSpec : ChangeSpec := { name := "itemMade", fn := fun _ => fun
  | [d1, d2, d3, d4] => { results := [.lit (.bool true)], args := [d1, d2, d3, d4] }
  | _ => none }
def itemMadeRow : OpenClaim := { program := "ytbmimcpllpgcaaa", sum := "765b86d831e837bffbd7d724e355d0beb1af9bf703dd2c7f3a9ef9bb7ed525a7", func := "caravan/caravanlaw5.ItemMade", spec := "itemMade", unfollowed := true, recurses := true, apart := false }
def ItemMadeSaid : Prop := itemMadeRow.holds Try.pinned (OpenSpec.ofChange itemMadeSpec)

/-- ITS FALSE NEIGHBOUR: 'it returns false'. Refute it at one input. -/
def itemMadeWrong : ChangeSpec := { name := "itemMade", fn := fun _ => fun
  | [d1, d2, d3, d4] => { results := [.lit (.bool false)], args := [d1, d2, d3, d4] }
  | _ => none }
def ItemMadeWrongFalsely : Prop := itemMadeRow.holds Try.pinned (OpenSpec.ofChange itemMadeWrong)

/-- 'caravanlaw5.ItemTime': WHATEVER THE INPUT: true; the input reads as it did. -/
def itemTimeSpec : ChangeSpec := { name := "itemTime", fn := fun _ => fun
  | [d1, d2, d3] => { results := [.lit (.bool true)], args := [d1, d2, d3] }
  | _ => none }
def itemTimeRow : OpenClaim := { program := "ytbmimcpllpgcaaa", sum := "765b86d831e837bffbd7d724e355d0beb1af9bf703dd2c7f3a9ef9bb7ed525a7", func := "caravan/caravanlaw5.ItemTime", spec := "itemTime", unfollowed := true, recurses := true, apart := false }
def ItemTimeSaid : Prop := itemTimeRow.holds Try.pinned (OpenSpec.ofChange itemTimeSpec)

/-- ITS FALSE NEIGHBOUR: 'it returns false'. Refute it at one input. -/
def itemTimeWrong : ChangeSpec := { name := "itemTime", fn := fun _ => fun
  | [d1, d2, d3] => { results := [.lit (.bool false)], args := [d1, d2, d3] }
  | _ => none }
def ItemTimeWrongFalsely : Prop := itemTimeRow.holds Try.pinned (OpenSpec.ofChange itemTimeWrong)

/- THE SECOND FORM. 'bulk': how many values and letters a reading holds, each counted each time it is reached (what is shared counts as often as it is met; a slice's spare places count too). A statement '..UptoSaid' is the law's where the arguments, and the package variables that the reading takes, are together of bulk at most 1048576: NARROWER than '..Said'. Prove '..Said' where nothing that the law and all that it calls make is longer than what came in: it says more and counts as full. Else prove '..UptoSaid'. A law counts once. -/
mutual
def uptoBulk {H : Type} : DataW H → Nat
  | .lit (.string bytes) => bytes.length + 1
  | .lit _ => 1
  | .nil => 1
  | .ptr d => uptoBulk d + 1
  | .slice elems spare => uptoBulkAll elems + uptoBulkAll spare + 1
  | .agg parts => uptoBulkAll parts + 1
  | .iface _ d => uptoBulk d + 1
  | .map entries => uptoBulkEntries entries + 1
  | .held _ => 1
def uptoBulkAll {H : Type} : List (DataW H) → Nat
  | [] => 0
  | d :: r => uptoBulk d + uptoBulkAll r
def uptoBulkEntries {H : Type} : List (Lit × DataW H) → Nat
  | [] => 0
  | x :: r => uptoBulkEntry x + uptoBulkEntries r
def uptoBulkEntry {H : Type} : Lit × DataW H → Nat
  | (.string bytes, d) => bytes.length + uptoBulk d + 1
  | (_, d) => uptoBulk d + 1
 end
def uptoSmall : (H : Type) → List (DataW H) → Bool := fun _ ds => decide (uptoBulkAll ds ≤ 1048576)
def OpenSpec.upto (s : _root_.Go.ChangeSpec) : _root_.Go.OpenSpec := { _root_.Go.OpenSpec.ofChange s with cond := some uptoSmall }

/-- 'caravanlaw5.ItemLimits', WHERE WHAT IT READS IS OF BULK AT MOST 1048576: true; the input reads as it did. -/
def itemLimitsUptoRow : OpenClaim := { program := "ytbmimcpllpgcaaa", sum := "765b86d831e837bffbd7d724e355d0beb1af9bf703dd2c7f3a9ef9bb7ed525a7", func := "caravan/caravanlaw5.ItemLimits", spec := "itemLimits", unfollowed := true, recurses := true, apart := false, narrowed := true }
def ItemLimitsUptoSaid : Prop := itemLimitsUptoRow.holds Try.pinned (OpenSpec.upto itemLimitsSpec)

/-- 'caravanlaw5.ItemParts', WHERE WHAT IT READS IS OF BULK AT MOST 1048576: true; the input reads as it did. -/
def itemPartsUptoRow : OpenClaim := { program := "ytbmimcpllpgcaaa", sum := "765b86d831e837bffbd7d724e355d0beb1af9bf703dd2c7f3a9ef9bb7ed525a7", func := "caravan/caravanlaw5.ItemParts", spec := "itemParts", unfollowed := true, recurses := true, apart := false, narrowed := true }
def ItemPartsUptoSaid : Prop := itemPartsUptoRow.holds Try.pinned (OpenSpec.upto itemPartsSpec)

/-- 'caravanlaw5.ItemAll', WHERE WHAT IT READS IS OF BULK AT MOST 1048576: true; the input reads as it did. -/
def itemAllUptoRow : OpenClaim := { program := "ytbmimcpllpgcaaa", sum := "765b86d831e837bffbd7d724e355d0beb1af9bf703dd2c7f3a9ef9bb7ed525a7", func := "caravan/caravanlaw5.ItemAll", spec := "itemAll", unfollowed := true, recurses := true, apart := false, narrowed := true }
def ItemAllUptoSaid : Prop := itemAllUptoRow.holds Try.pinned (OpenSpec.upto itemAllSpec)

/-- 'caravanlaw5.ItemMade', WHERE WHAT IT READS IS OF BULK AT MOST 1048576: true; the input reads as it did. -/
def itemMadeUptoRow : OpenClaim := { program := "ytbmimcpllpgcaaa", sum := "765b86d831e837bffbd7d724e355d0beb1af9bf703dd2c7f3a9ef9bb7ed525a7", func := "caravan/caravanlaw5.ItemMade", spec := "itemMade", unfollowed := true, recurses := true, apart := false, narrowed := true }
def ItemMadeUptoSaid : Prop := itemMadeUptoRow.holds Try.pinned (OpenSpec.upto itemMadeSpec)

/-- 'caravanlaw5.ItemTime', WHERE WHAT IT READS IS OF BULK AT MOST 1048576: true; the input reads as it did. -/
def itemTimeUptoRow : OpenClaim := { program := "ytbmimcpllpgcaaa", sum := "765b86d831e837bffbd7d724e355d0beb1af9bf703dd2c7f3a9ef9bb7ed525a7", func := "caravan/caravanlaw5.ItemTime", spec := "itemTime", unfollowed := true, recurses := true, apart := false, narrowed := true }
def ItemTimeUptoSaid : Prop := itemTimeUptoRow.holds Try.pinned (OpenSpec.upto itemTimeSpec)

end Rows
end Go.Proofs.Ytbmimcpllpgcaaa
