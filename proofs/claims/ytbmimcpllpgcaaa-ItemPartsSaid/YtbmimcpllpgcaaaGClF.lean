/- The library's slices.Clone at one element type that leads to no other memory: a copy of the elements in memory of the call's own. Conditions: the copy's size lies within the form's reach. -/
import Derived.WalkSpells
import Derived.Lib.Hide
import Derived.Test.YtbmimcpllpgcaaaG0
namespace Go.Proofs.Ytbmimcpllpgcaaa.G
open Go.RowKit Go.Proofs.YtbmimcpllpgcaaaW.PrintWords Go.Proofs.YtbmimcpllpgcaaaW.PrintLast Go.Proofs.YtbmimcpllpgcaaaW.PrintMore

def api_Field_28.f (l0 : List (S29)) : Option (List (S29)) := if l0.length * 32 ≤ 140737488355328 then some l0 else none
set_option maxHeartbeats 2000000 in
set_option maxRecDepth 100000 in
theorem api_Field_28.calls (A0 : Option Addr) (c0 : Nat) (l0 : List (S29)) (r : List (S29)) (w : World) (hr0 : Kd.C k29 w A0 l0.length l0) (hc0 : l0.length ≤ c0) (h : api_Field_28.f l0 = some r) :
    Calls Try.prog 28 #[.slice A0 l0.length c0] w fun e w' => ∃ v0_ : Value, e = .returned (v0_) ∧ Kd.R k29 29 w' w.heap.size (fun _ => True) v0_ r ∧ Below w.heap.size w w' := by
  unfold api_Field_28.f at h
  split at h
  case isFalse => cases h
  case isTrue hb =>
    obtain rfl := Option.some.inj h
    have q : ∀ (w : World) (a : Option Addr) (n c n' c' : Nat), (binOp .eql 23 (.slice a n c) (.slice none n' c')).run Try.prog w = .ok (.bool a.isNone) w := fun w a n c n' c' => Lib.run_eql_slice_nil w _ _ a n c n' c' Try.underlying23
    have u : ∀ w, Sem.run Try.prog (underlying 23) w = .ok (TypeDesc.slice 29) w := run_underlying Try.underlying23
    have hm := Lib.hid hr0.2.1
    rcases A0 with _ | ad
    · have hl : l0 = [] := by
        rcases Nat.eq_zero_or_pos l0.length with h0 | h0
        · exact List.eq_nil_of_length_eq_zero h0
        · obtain ⟨ad, e, _⟩ := hr0.2.2 h0
          cases e
      subst hl
      clear hr0 hb h
      go_enter Try.func28, Try.ntmps28
      go_wp2
      go_ret
      exact ⟨_, rfl, Kd.R_nil _ _ _ _ _, Below.refl _ _⟩
    · have HO : Kd.R k29 29 (w.alloc (.cells #[] 29)) w.heap.size (fun _ => True) (.slice (some ⟨w.heap.size, 0, none⟩) 0 0) ([] : List (S29)) :=
        ⟨fun _ _ => trivial, [], World.ownsRow_made w #[] 0 (Nat.le_refl _) (Nat.zero_le _) (by simp), Reps.none _ _⟩
      have HR := Lib.hid (ReadsRow.imp_ hr0 ((Below.refl w.heap.size w).alloc (Nat.le_refl _) (.cells #[] 29)) (fun _ _ hp => hp))
      have HB := Lib.hid ((Below.refl w.heap.size w).alloc (Nat.le_refl _) (.cells #[] 29))
      have HO := Lib.hid HO
      have Hb := Lib.hid hb
      clear hr0 hb h
      go_enter Try.func28, Try.ntmps28
      go_wp2_with (at_builtin; refine Kd.R_append_rows k29 (Rr := Kd.K k29 w) (w0 := w) w.heap.size rfl _ _ 23 29 _ 32 rfl Try.underlying23 info29 rfl (by decide) (by decide) _ [] l0 (some ad) l0.length c0 (fun _ => True) (fun _ => False) rfl rfl HO.out HR.out (fun x cs hx => by obtain rfl := k29_open hx; exact k29_mkM _ _ _ x) (fun _ e => e.elim) (fun _ _ => trivial) HB.out (by simp) (by simpa using Hb.out) ?_)
      intro v1 w1 hR hB _ _
      have H1 := Lib.hid hR
      have H2 := Lib.hid hB
      clear hR hB
      go_wp2
      go_ret
      exact ⟨v1, rfl, by simpa using H1.out, H2.out⟩
end Go.Proofs.Ytbmimcpllpgcaaa.G
