/- ref.Upper in the print's words. Condition: the text's length below 9 * 10^18. -/
import Derived.Test.YtjdpmjpfhcdcfaaUpR
import Derived.Test.YtjdpmjpfhcdcfaaG0
namespace Go.Proofs.Ytjdpmjpfhcdcfaa.G
open Go.RowKit
def caravanref1_Upper.f (a0 : ByteArray) : Option (ByteArray) := if a0.size ≤ 9000000000000000000 then some (upB a0) else none
theorem caravanref1_Upper.calls (a0 : ByteArray) (r : ByteArray) (w : World) (h : caravanref1_Upper.f a0 = some r) :
    Calls Try.prog 25 #[.string a0] w fun e w' => e = .returned (.string r) ∧ Below w.heap.size w w' := by
  unfold caravanref1_Upper.f at h
  split at h
  case isFalse => cases h
  case isTrue hb =>
    cases h
    exact refUpper_calls a0 w hb
end Go.Proofs.Ytjdpmjpfhcdcfaa.G
