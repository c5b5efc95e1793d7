/-
  No cell of these rows narrows 'for every input' (looked for: loops, veiled, ifaces, maps, wideKeys, modest, calm, conditions, laid).
  DERIVED. THE GIVEN ROWS OF THIS SEAT. 5 by the template 'for every input the law returns true; each argument reads behind the call as it read before'; 0 by the template 'total and deterministic' (their statements: YthllhpjjoifnmaaTotals.lean).
  GIVEN WITH THE SEED: the statements are not yours to turn. If you find one false, say at which input.
  Laid BY PROGRAM, IN A SANDBOX (cutbox-rows.mjs): the forced cells as the released guide's own fill.sh prints them over the translation a5e6f8875c4c9f6c… (all of the seat's roots in one cut). By AI agents, Wed Nov 11 2026. No macro, syntax, notation, axiom, sorry.
-/
import Derived.Test.YthllhpjjoifnmaaChecked
import GoSem.Claim
import GoSem.ClaimJoined
import GoSem.ClaimMapViews
import Derived.JoinedTies
import Derived.KernelRfl
namespace Go.Proofs.Ythllhpjjoifnmaa
/- THE CELL 'sum', in the pinned program and in every row, IS THE sha256 OF THE DUMP (.gsa) THAT YthllhpjjoifnmaaProg.lean LOADS. Nothing in Lean hashes anything: it is a label: what it is worth is what the hold of that sum in a sandbox is worth. -/
noncomputable def Try.pinned : Pinned := { name := "ythllhpjjoifnmaa", sum := "a5e6f8875c4c9f6c4187f00c57c531cccae4d89dfcf9f111ff72c0f790d259ca", checked := Try.checked }
namespace Rows
def none {H : Type} : Left H := { results := [], args := [] }

/-- 'caravanlaw21.FileKeeps': WHATEVER THE INPUT: true; the input reads as it did. -/
def fileKeepsSpec : ChangeSpec := { name := "fileKeeps", fn := fun _ => fun
  | [d1, d2, d3, d4] => { results := [.lit (.bool true)], args := [d1, d2, d3, d4] }
  | _ => none }
def fileKeepsRow : OpenClaim := { program := "ythllhpjjoifnmaa", sum := "a5e6f8875c4c9f6c4187f00c57c531cccae4d89dfcf9f111ff72c0f790d259ca", func := "caravan/caravanlaw21.FileKeeps", spec := "fileKeeps", unfollowed := true, recurses := true, apart := false }
def FileKeepsSaid : Prop := fileKeepsRow.holds Try.pinned (OpenSpec.ofChange fileKeepsSpec)

/-- ITS FALSE NEIGHBOUR: 'it returns false'. Refute it at one input. -/
def fileKeepsWrong : ChangeSpec := { name := "fileKeeps", fn := fun _ => fun
  | [d1, d2, d3, d4] => { results := [.lit (.bool false)], args := [d1, d2, d3, d4] }
  | _ => none }
def FileKeepsWrongFalsely : Prop := fileKeepsRow.holds Try.pinned (OpenSpec.ofChange fileKeepsWrong)

/-- 'caravanlaw21.FileFull': WHATEVER THE INPUT: true; the input reads as it did. -/
def fileFullSpec : ChangeSpec := { name := "fileFull", fn := fun _ => fun
  | [d1, d2, d3] => { results := [.lit (.bool true)], args := [d1, d2, d3] }
  | _ => none }
def fileFullRow : OpenClaim := { program := "ythllhpjjoifnmaa", sum := "a5e6f8875c4c9f6c4187f00c57c531cccae4d89dfcf9f111ff72c0f790d259ca", func := "caravan/caravanlaw21.FileFull", spec := "fileFull", unfollowed := true, recurses := true, apart := false }
def FileFullSaid : Prop := fileFullRow.holds Try.pinned (OpenSpec.ofChange fileFullSpec)

/-- ITS FALSE NEIGHBOUR: 'it returns false'. Refute it at one input. -/
def fileFullWrong : ChangeSpec := { name := "fileFull", fn := fun _ => fun
  | [d1, d2, d3] => { results := [.lit (.bool false)], args := [d1, d2, d3] }
  | _ => none }
def FileFullWrongFalsely : Prop := fileFullRow.holds Try.pinned (OpenSpec.ofChange fileFullWrong)

/-- 'caravanlaw21.FileRuns': WHATEVER THE INPUT: true; the input reads as it did. -/
def fileRunsSpec : ChangeSpec := { name := "fileRuns", fn := fun _ => fun
  | [d1, d2] => { results := [.lit (.bool true)], args := [d1, d2] }
  | _ => none }
def fileRunsRow : OpenClaim := { program := "ythllhpjjoifnmaa", sum := "a5e6f8875c4c9f6c4187f00c57c531cccae4d89dfcf9f111ff72c0f790d259ca", func := "caravan/caravanlaw21.FileRuns", spec := "fileRuns", unfollowed := true, recurses := true, apart := false }
def FileRunsSaid : Prop := fileRunsRow.holds Try.pinned (OpenSpec.ofChange fileRunsSpec)

/-- ITS FALSE NEIGHBOUR: 'it returns false'. Refute it at one input. -/
def fileRunsWrong : ChangeSpec := { name := "fileRuns", fn := fun _ => fun
  | [d1, d2] => { results := [.lit (.bool false)], args := [d1, d2] }
  | _ => none }
def FileRunsWrongFalsely : Prop := fileRunsRow.holds Try.pinned (OpenSpec.ofChange fileRunsWrong)

/-- 'caravanlaw21.FileCrash': WHATEVER THE INPUT: true; the input reads as it did. -/
def fileCrashSpec : ChangeSpec := { name := "fileCrash", fn := fun _ => fun
  | [d1, d2, d3] => { results := [.lit (.bool true)], args := [d1, d2, d3] }
  | _ => none }
def fileCrashRow : OpenClaim := { program := "ythllhpjjoifnmaa", sum := "a5e6f8875c4c9f6c4187f00c57c531cccae4d89dfcf9f111ff72c0f790d259ca", func := "caravan/caravanlaw21.FileCrash", spec := "fileCrash", unfollowed := true, recurses := true, apart := false }
def FileCrashSaid : Prop := fileCrashRow.holds Try.pinned (OpenSpec.ofChange fileCrashSpec)

/-- ITS FALSE NEIGHBOUR: 'it returns false'. Refute it at one input. -/
def fileCrashWrong : ChangeSpec := { name := "fileCrash", fn := fun _ => fun
  | [d1, d2, d3] => { results := [.lit (.bool false)], args := [d1, d2, d3] }
  | _ => none }
def FileCrashWrongFalsely : Prop := fileCrashRow.holds Try.pinned (OpenSpec.ofChange fileCrashWrong)

/-- 'caravanlaw21.FileNil': WHATEVER THE INPUT: true; the input reads as it did. -/
def fileNilSpec : ChangeSpec := { name := "fileNil", fn := fun _ => fun
  | [d1, d2] => { results := [.lit (.bool true)], args := [d1, d2] }
  | _ => none }
def fileNilRow : OpenClaim := { program := "ythllhpjjoifnmaa", sum := "a5e6f8875c4c9f6c4187f00c57c531cccae4d89dfcf9f111ff72c0f790d259ca", func := "caravan/caravanlaw21.FileNil", spec := "fileNil", unfollowed := true, recurses := true, apart := false }
def FileNilSaid : Prop := fileNilRow.holds Try.pinned (OpenSpec.ofChange fileNilSpec)

/-- ITS FALSE NEIGHBOUR: 'it returns false'. Refute it at one input. -/
def fileNilWrong : ChangeSpec := { name := "fileNil", fn := fun _ => fun
  | [d1, d2] => { results := [.lit (.bool false)], args := [d1, d2] }
  | _ => none }
def FileNilWrongFalsely : Prop := fileNilRow.holds Try.pinned (OpenSpec.ofChange fileNilWrong)

/- THE SECOND FORM. 'bulk': how many values and letters a reading holds, each counted each time it is reached (what is shared counts as often as it is met; a slice's spare places count too). A statement '..UptoSaid' is the law's where the arguments, and the package variables that the reading takes, are together of bulk at most 1048576: NARROWER than '..Said'. Prove '..Said' where nothing that the law and all that it calls make is longer than what came in: it says more and counts as full. Else prove '..UptoSaid'. A law counts once. -/
mutual
def uptoBulk {H : Type} : DataW H → Nat
  | .lit (.string bytes) => bytes.length + 1
  | .lit _ => 1
  | .nil => 1
  | .ptr d => uptoBulk d + 1
  | .slice elems spare => uptoBulkAll elems + uptoBulkAll spare + 1
  | .agg parts => uptoBulkAll parts + 1
  | .iface _ d => uptoBulk d + 1
  | .map entries => uptoBulkEntries entries + 1
  | .held _ => 1
def uptoBulkAll {H : Type} : List (DataW H) → Nat
  | [] => 0
  | d :: r => uptoBulk d + uptoBulkAll r
def uptoBulkEntries {H : Type} : List (Lit × DataW H) → Nat
  | [] => 0
  | x :: r => uptoBulkEntry x + uptoBulkEntries r
def uptoBulkEntry {H : Type} : Lit × DataW H → Nat
  | (.string bytes, d) => bytes.length + uptoBulk d + 1
  | (_, d) => uptoBulk d + 1
 end
def uptoSmall : (H : Type) → List (DataW H) → Bool := fun _ ds => decide (uptoBulkAll ds ≤ 1048576)
def OpenSpec.upto (s : _root_.Go.ChangeSpec) : _root_.Go.OpenSpec := { _root_.Go.OpenSpec.ofChange s with cond := some uptoSmall }

/-- 'caravanlaw21.FileKeeps', WHERE WHAT IT READS IS OF BULK AT MOST 1048576: true; the input reads as it did. -/
def fileKeepsUptoRow : OpenClaim := { program := "ythllhpjjoifnmaa", sum := "a5e6f8875c4c9f6c4187f00c57c531cccae4d89dfcf9f111ff72c0f790d259ca", func := "caravan/caravanlaw21.FileKeeps", spec := "fileKeeps", unfollowed := true, recurses := true, apart := false, narrowed := true }
def FileKeepsUptoSaid : Prop := fileKeepsUptoRow.holds Try.pinned (OpenSpec.upto fileKeepsSpec)

/-- 'caravanlaw21.FileFull', WHERE WHAT IT READS IS OF BULK AT MOST 1048576: true; the input reads as it did. -/
def fileFullUptoRow : OpenClaim := { program := "ythllhpjjoifnmaa", sum := "a5e6f8875c4c9f6c4187f00c57c531cccae4d89dfcf9f111ff72c0f790d259ca", func := "caravan/caravanlaw21.FileFull", spec := "fileFull", unfollowed := true, recurses := true, apart := false, narrowed := true }
def FileFullUptoSaid : Prop := fileFullUptoRow.holds Try.pinned (OpenSpec.upto fileFullSpec)

/-- 'caravanlaw21.FileRuns', WHERE WHAT IT READS IS OF BULK AT MOST 1048576: true; the input reads as it did. -/
def fileRunsUptoRow : OpenClaim := { program := "ythllhpjjoifnmaa", sum := "a5e6f8875c4c9f6c4187f00c57c531cccae4d89dfcf9f111ff72c0f790d259ca", func := "caravan/caravanlaw21.FileRuns", spec := "fileRuns", unfollowed := true, recurses := true, apart := false, narrowed := true }
def FileRunsUptoSaid : Prop := fileRunsUptoRow.holds Try.pinned (OpenSpec.upto fileRunsSpec)

/-- 'caravanlaw21.FileCrash', WHERE WHAT IT READS IS OF BULK AT MOST 1048576: true; the input reads as it did. -/
def fileCrashUptoRow : OpenClaim := { program := "ythllhpjjoifnmaa", sum := "a5e6f8875c4c9f6c4187f00c57c531cccae4d89dfcf9f111ff72c0f790d259ca", func := "caravan/caravanlaw21.FileCrash", spec := "fileCrash", unfollowed := true, recurses := true, apart := false, narrowed := true }
def FileCrashUptoSaid : Prop := fileCrashUptoRow.holds Try.pinned (OpenSpec.upto fileCrashSpec)

/-- 'caravanlaw21.FileNil', WHERE WHAT IT READS IS OF BULK AT MOST 1048576: true; the input reads as it did. -/
def fileNilUptoRow : OpenClaim := { program := "ythllhpjjoifnmaa", sum := "a5e6f8875c4c9f6c4187f00c57c531cccae4d89dfcf9f111ff72c0f790d259ca", func := "caravan/caravanlaw21.FileNil", spec := "fileNil", unfollowed := true, recurses := true, apart := false, narrowed := true }
def FileNilUptoSaid : Prop := fileNilUptoRow.holds Try.pinned (OpenSpec.upto fileNilSpec)

end Rows
end Go.Proofs.Ythllhpjjoifnmaa
