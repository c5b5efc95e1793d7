/- text.Put in the print's words. Condition: the texts' lengths below 10^9. -/
import Derived.Test.YtfmhhahhomnkbaaDoorPt
import Derived.Test.YtfmhhahhomnkbaaDoorG0
namespace Go.Proofs.YtfmhhahhomnkbaaDoor.G
open Go.RowKit
def text_Put.f (a0 : ByteArray) (a1 : Int) (a2 : ByteArray) : Option (ByteArray × Bool) := if a0.size ≤ 1000000000 ∧ a2.size ≤ 1000000000 then some ((putP a0 a1 a2).getD ⟨#[]⟩, (putP a0 a1 a2).isSome) else none
theorem text_Put.calls (a0 : ByteArray) (a1 : Int) (a2 : ByteArray) (r1 : ByteArray) (r2 : Bool) (w : World) (h : text_Put.f a0 a1 a2 = some (r1, r2)) :
    Calls Tryd.prog 12 #[.string a0, .int .i64 a1, .string a2] w fun e w' => e = .returned (.tuple #[.string r1, .bool r2]) ∧ Below w.heap.size w w' := by
  unfold text_Put.f at h
  split at h
  case isFalse => cases h
  case isTrue hb =>
    have h := Option.some.inj h
    injection h with e1 e2
    subst e1 e2
    exact put_any a0 a2 a1 w hb.1 hb.2
end Go.Proofs.YtfmhhahhomnkbaaDoor.G
