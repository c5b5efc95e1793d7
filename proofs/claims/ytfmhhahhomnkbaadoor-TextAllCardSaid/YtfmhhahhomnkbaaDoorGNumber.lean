/- text.Number in the print's words. Conditions: the text's length below 2^48; strconv's variables are as they are laid. -/
import Derived.Test.YtfmhhahhomnkbaaDoorWd
import Derived.Test.YtfmhhahhomnkbaaDoorG0
namespace Go.Proofs.YtfmhhahhomnkbaaDoor.G
open Go.RowKit
def text_Number.f (a0 : ByteArray) : Option (Int × Bool) := if a0.size ≤ 281474976710656 then some ((numP a0).getD 0, (numP a0).isSome) else none
theorem text_Number.calls (a0 : ByteArray) (r1 : Int) (r2 : Bool) (w : World) (h : text_Number.f a0 = some (r1, r2)) (hWd_ : Wd w) :
    Calls Tryd.prog 8 #[.string a0] w fun e w' => e = .returned (.tuple #[.int .i64 r1, .bool r2]) ∧ Below w.heap.size w w' := by
  unfold text_Number.f at h
  split at h
  case isFalse => cases h
  case isTrue hb =>
    have h := Option.some.inj h
    injection h with e1 e2
    subst e1 e2
    exact number_any a0 hb w hWd_
end Go.Proofs.YtfmhhahhomnkbaaDoor.G
