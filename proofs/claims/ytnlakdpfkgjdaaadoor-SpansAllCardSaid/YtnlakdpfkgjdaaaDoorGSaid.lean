/- spans.said in the print's words. Condition: a bound on the list's length. -/
import Derived.Test.YtnlakdpfkgjdaaaDoorSaS
namespace Go.Proofs.YtnlakdpfkgjdaaaDoor.G
open Go.RowKit Go.Cav Go.Proofs.YtnlakdpfkgjdaaaDoorW.PrintWords Go.Proofs.YtnlakdpfkgjdaaaDoorW.PrintLast Go.Proofs.YtnlakdpfkgjdaaaDoorW.PrintMore
def spans_said.f (l0 : List S31) : Option (List S31) := if l0.length ≤ 1000000000 then some (pdqS (cutS l0)) else none
theorem said_any (A0 : Option Addr) (c0 : Nat) (l0 : List S31) (w : World) (hr0 : Kd.C k31 w A0 l0.length l0) (h0 : l0.length ≤ 1000000000) :
    Calls Tryd.prog 32 #[.slice A0 l0.length c0] w fun e w' => ∃ v0_ : Value, e = .returned (v0_) ∧ Kd.V k31 31 w' w.heap.size (fun k_ => (w.heap.size ≤ k_)) v0_ (pdqS (cutS l0)) ∧ Below w.heap.size w w' :=
  said_calls A0 c0 l0 w hr0 h0 pdqS fun v xs w1 hx hb hR => (sort_any v xs w1 w.heap.size hx hb.size hR).mono fun _ _ ⟨a, b, c⟩ => ⟨a, b, hb.trans c⟩
theorem spans_said.calls (A0 : Option Addr) (c0 : Nat) (l0 : List S31) (r : List S31) (w : World) (hr0 : Kd.C k31 w A0 l0.length l0) (_hc0 : l0.length ≤ c0) (h : spans_said.f l0 = some r) :
    Calls Tryd.prog 32 #[.slice A0 l0.length c0] w fun e w' => ∃ v0_ : Value, e = .returned (v0_) ∧ Kd.V k31 31 w' w.heap.size (fun k_ => (w.heap.size ≤ k_)) v0_ r ∧ Below w.heap.size w w' := by
  unfold spans_said.f at h
  split at h
  case isFalse => cases h
  case isTrue hb =>
    obtain rfl := Option.some.inj h
    exact said_any A0 c0 l0 w hr0 hb
end Go.Proofs.YtnlakdpfkgjdaaaDoor.G
