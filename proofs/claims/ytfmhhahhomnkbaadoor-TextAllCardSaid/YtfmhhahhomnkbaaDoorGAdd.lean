/- text.Add in the print's words. Conditions: the text's length below 2^48; strconv's variables are as they are laid. -/
import Derived.Test.YtfmhhahhomnkbaaDoorWd
import Derived.Test.YtfmhhahhomnkbaaDoorG0
namespace Go.Proofs.YtfmhhahhomnkbaaDoor.G
open Go.RowKit
def text_Add.f (a0 : ByteArray) (a1 : Int) : Option (ByteArray × Bool) := if a0.size ≤ 281474976710656 then some ((addP a0 a1).getD ⟨#[]⟩, (addP a0 a1).isSome) else none
theorem text_Add.calls (a0 : ByteArray) (a1 : Int) (r1 : ByteArray) (r2 : Bool) (w : World) (h : text_Add.f a0 a1 = some (r1, r2)) (hWd_ : Wd w) :
    Calls Tryd.prog 10 #[.string a0, .int .i64 a1] w fun e w' => e = .returned (.tuple #[.string r1, .bool r2]) ∧ Below w.heap.size w w' := by
  unfold text_Add.f at h
  split at h
  case isFalse => cases h
  case isTrue hb =>
    have h := Option.some.inj h
    injection h with e1 e2
    subst e1 e2
    exact add_any a0 a1 hb w hWd_
end Go.Proofs.YtfmhhahhomnkbaaDoor.G
