/- cmd.Keys in the print's words. Conditions: bounds on the words. -/
import Derived.Test.YtjdpmjpfhcdcfaaCp
import Derived.Test.YtjdpmjpfhcdcfaaGCheck
namespace Go.Proofs.Ytjdpmjpfhcdcfaa.G
open Go.RowKit Go.Cav Go.Proofs.YtjdpmjpfhcdcfaaW Go.Proofs.YtjdpmjpfhcdcfaaW.PrintWords Go.Proofs.YtjdpmjpfhcdcfaaW.PrintLast Go.Proofs.YtjdpmjpfhcdcfaaW.PrintMore
theorem R_strings {w : World} {base : Nat} {v : Value} {l : List ByteArray} (h : w.ownsRow base 9 1 v l.length (l.map .string)) : Kd.R Kd.string 9 w base (fun _ => True) v l := by
  refine ⟨fun _ _ => trivial, l.map .string, h, by simp [Kd.string, Kd.scalar], fun j p hj => ?_⟩
  simp only [Kd.string, Kd.scalar, Nat.mul_one]
  show _ = [Value.string p]
  rw [List.drop_eq_getElem_cons (by rw [List.length_map]; exact (List.getElem?_eq_some_iff.1 hj).1)]
  simp [(List.getElem?_eq_some_iff.1 hj).2]
def cmd_Keys.f (l0 : List ByteArray) : Option (List ByteArray) := if fitW l0 = true then some (keysP l0) else none
set_option linter.unusedVariables false in
theorem cmd_Keys.calls (A0 : Option Addr) (c0 : Nat) (l0 : List ByteArray) (r : List ByteArray) (w : World) (hr0 : Kd.C Kd.string w A0 l0.length l0) (hc0 : l0.length ≤ c0) (h : cmd_Keys.f l0 = some r) :
    Calls Try.prog 14 #[.slice A0 l0.length c0] w fun e w' => ∃ v0_ : Value, e = .returned (v0_) ∧ Kd.V Kd.string 9 w' w.heap.size (fun k_ => (w.heap.size ≤ k_)) v0_ r ∧ Below w.heap.size w w' := by
  unfold cmd_Keys.f at h
  split at h
  case isFalse => cases h
  case isTrue hb =>
    obtain rfl := Option.some.inj h
    obtain ⟨b1, b2⟩ := fitW_spec hb
    refine (keysFn_any l0 A0 c0 w (words_C hr0) b1 b2).mono ?_
    rintro e w' ⟨v, rfl, h1, h2⟩
    exact ⟨v, rfl, Kd.V_mono (Kd.R_V (Kd.R_bound (R_strings h1))) (fun k hk => hk.2.1), h2⟩
end Go.Proofs.Ytjdpmjpfhcdcfaa.G
