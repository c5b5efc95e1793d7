/- cmd.Find in the print's words. Condition: the text's length below 9 * 10^18. -/
import Derived.Test.YtjdpmjpfhcdcfaaFi
import Derived.Test.YtjdpmjpfhcdcfaaG0
namespace Go.Proofs.Ytjdpmjpfhcdcfaa.G
open Go.RowKit
def tupS (s : SpecV) (b : Bool) : ByteArray × Int × Int × Int × Int × Int × Bool × Bool := (s.nm, s.least, s.most, s.first, s.last, s.step, s.wr, b)
def cmd_Find.f (a0 : ByteArray) : Option (ByteArray × Int × Int × Int × Int × Int × Bool × Bool) :=
  if a0.size ≤ 9000000000000000000 then some (tupS ((findP a0).getD zeroS) (findP a0).isSome) else none
theorem cmd_Find.calls (a0 : ByteArray) (r1 : ByteArray) (r2 : Int) (r3 : Int) (r4 : Int) (r5 : Int) (r6 : Int) (r7 : Bool) (r8 : Bool) (w : World) (h : cmd_Find.f a0 = some (r1, r2, r3, r4, r5, r6, r7, r8)) :
    Calls Try.prog 11 #[.string a0] w fun e w' => e = .returned (.tuple #[.agg #[.string r1, .int .i64 r2, .int .i64 r3, .int .i64 r4, .int .i64 r5, .int .i64 r6, .bool r7], .bool r8]) ∧ Below w.heap.size w w' := by
  unfold cmd_Find.f at h
  split at h
  case isFalse => cases h
  case isTrue hb =>
    have h := Option.some.inj h
    unfold tupS at h
    have hf := find_any a0 w hb
    generalize (findP a0).getD zeroS = s at h hf
    generalize (findP a0).isSome = b at h hf
    injection h with e1 h
    injection h with e2 h
    injection h with e3 h
    injection h with e4 h
    injection h with e5 h
    injection h with e6 h
    injection h with e7 e8
    subst e1 e2 e3 e4 e5 e6 e7 e8
    exact hf
end Go.Proofs.Ytjdpmjpfhcdcfaa.G
