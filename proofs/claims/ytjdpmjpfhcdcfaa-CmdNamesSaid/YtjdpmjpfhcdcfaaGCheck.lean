/- cmd.Check in the print's words. Conditions: bounds on the words. -/
import Derived.Test.YtjdpmjpfhcdcfaaCl
import Derived.Test.YtjdpmjpfhcdcfaaGFind
namespace Go.Proofs.Ytjdpmjpfhcdcfaa.G
open Go.RowKit Go.Cav Go.Proofs.YtjdpmjpfhcdcfaaW.PrintWords Go.Proofs.YtjdpmjpfhcdcfaaW.PrintLast Go.Proofs.YtjdpmjpfhcdcfaaW.PrintMore
theorem words_C {w : World} {A : Option Addr} {l : List ByteArray} (h : Kd.C Kd.string w A l.length l) : WordsAt w A l := fun i x hx => by
  have hi : i < l.length := (List.getElem?_eq_some_iff.1 hx).1
  obtain ⟨ad, rfl, hc⟩ := h.2.2 (by omega)
  obtain ⟨cs, h1, h2, h3⟩ := hc i x hx
  obtain rfl : cs = [.string x] := h2
  have := h3 0 _ rfl
  exact ⟨ad, rfl, by simpa [Kd.string, Kd.scalar] using this⟩
def fitW (l0 : List ByteArray) : Bool := decide (l0.length ≤ 1000000000000) && (match l0 with | [] => true | x :: _ => decide (x.size ≤ 9000000000000000000))
theorem fitW_spec {l0 : List ByteArray} (h : fitW l0 = true) : l0.length ≤ 1000000000000 ∧ ∀ x, l0[0]? = some x → x.size ≤ 9000000000000000000 := by
  unfold fitW at h
  rw [Bool.and_eq_true, decide_eq_true_eq] at h
  refine ⟨h.1, fun x hx => ?_⟩
  cases l0 with
  | nil => cases hx
  | cons y l => cases hx; exact of_decide_eq_true h.2
def cmd_Check.f (l0 : List ByteArray) : Option (ByteArray × Int × Int × Int × Int × Int × Bool × Bool) :=
  if fitW l0 = true then some (tupS ((checkP l0).getD zeroS) (checkP l0).isSome) else none
set_option linter.unusedVariables false in
theorem cmd_Check.calls (A0 : Option Addr) (c0 : Nat) (l0 : List ByteArray) (r1 : ByteArray) (r2 : Int) (r3 : Int) (r4 : Int) (r5 : Int) (r6 : Int) (r7 : Bool) (r8 : Bool) (w : World) (hr0 : Kd.C Kd.string w A0 l0.length l0) (hc0 : l0.length ≤ c0) (h : cmd_Check.f l0 = some (r1, r2, r3, r4, r5, r6, r7, r8)) :
    Calls Try.prog 9 #[.slice A0 l0.length c0] w fun e w' => e = .returned (.tuple #[.agg #[.string r1, .int .i64 r2, .int .i64 r3, .int .i64 r4, .int .i64 r5, .int .i64 r6, .bool r7], .bool r8]) ∧ Below w.heap.size w w' := by
  unfold cmd_Check.f at h
  split at h
  case isFalse => cases h
  case isTrue hb =>
    have h := Option.some.inj h
    unfold tupS at h
    obtain ⟨b1, b2⟩ := fitW_spec hb
    have hf := check_any l0 A0 c0 w (words_C hr0) b1 b2
    generalize (checkP l0).getD zeroS = s at h hf
    generalize (checkP l0).isSome = b at h hf
    injection h with e1 h
    injection h with e2 h
    injection h with e3 h
    injection h with e4 h
    injection h with e5 h
    injection h with e6 h
    injection h with e7 e8
    subst e1 e2 e3 e4 e5 e6 e7 e8
    exact hf
end Go.Proofs.Ytjdpmjpfhcdcfaa.G
