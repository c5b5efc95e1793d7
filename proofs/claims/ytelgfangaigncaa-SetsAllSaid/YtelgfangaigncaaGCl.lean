/- The library's slices.Clone at one element type that leads to no other memory: a copy of the elements in memory of the call's own. Conditions: the copy's size lies within the form's reach. -/
import Derived.WalkSpells
import Derived.Lib.Hide
import Derived.Test.YtelgfangaigncaaG0
namespace Go.Proofs.Ytelgfangaigncaa.G
open Go.RowKit Go.Proofs.YtelgfangaigncaaW.PrintWords Go.Proofs.YtelgfangaigncaaW.PrintLast Go.Proofs.YtelgfangaigncaaW.PrintMore

def slices_Clone_string.f (l0 : List (ByteArray)) : Option (List (ByteArray)) := if l0.length * 16 ≤ 140737488355328 then some l0 else none
set_option maxHeartbeats 2000000 in
set_option maxRecDepth 100000 in
theorem slices_Clone_string.calls (A0 : Option Addr) (c0 : Nat) (l0 : List (ByteArray)) (r : List (ByteArray)) (w : World) (hr0 : Kd.C Kd.string w A0 l0.length l0) (hc0 : l0.length ≤ c0) (h : slices_Clone_string.f l0 = some r) :
    Calls Try.prog 23 #[.slice A0 l0.length c0] w fun e w' => ∃ v0_ : Value, e = .returned (v0_) ∧ Kd.R Kd.string 9 w' w.heap.size (fun _ => True) v0_ r ∧ Below w.heap.size w w' := by
  unfold slices_Clone_string.f at h
  split at h
  case isFalse => cases h
  case isTrue hb =>
    obtain rfl := Option.some.inj h
    have q : ∀ (w : World) (a : Option Addr) (n c n' c' : Nat), (binOp .eql 24 (.slice a n c) (.slice none n' c')).run Try.prog w = .ok (.bool a.isNone) w := fun w a n c n' c' => Lib.run_eql_slice_nil w _ _ a n c n' c' Try.underlying24
    have u : ∀ w, Sem.run Try.prog (underlying 24) w = .ok (TypeDesc.slice 9) w := run_underlying Try.underlying24
    have hm := Lib.hid hr0.2.1
    rcases A0 with _ | ad
    · have hl : l0 = [] := by
        rcases Nat.eq_zero_or_pos l0.length with h0 | h0
        · exact List.eq_nil_of_length_eq_zero h0
        · obtain ⟨ad, e, _⟩ := hr0.2.2 h0
          cases e
      subst hl
      clear hr0 hb h
      go_enter Try.func23, Try.ntmps23
      go_wp2
      go_ret
      exact ⟨_, rfl, Kd.R_nil _ _ _ _ _, Below.refl _ _⟩
    · have HO : Kd.R Kd.string 9 (w.alloc (.cells #[] 9)) w.heap.size (fun _ => True) (.slice (some ⟨w.heap.size, 0, none⟩) 0 0) ([] : List (ByteArray)) :=
        ⟨fun _ _ => trivial, [], World.ownsRow_made w #[] 0 (Nat.le_refl _) (Nat.zero_le _) (by simp), Reps.none _ _⟩
      have HR := Lib.hid (ReadsRow.imp_ hr0 ((Below.refl w.heap.size w).alloc (Nat.le_refl _) (.cells #[] 9)) (fun _ _ hp => hp))
      have HB := Lib.hid ((Below.refl w.heap.size w).alloc (Nat.le_refl _) (.cells #[] 9))
      have HO := Lib.hid HO
      have Hb := Lib.hid hb
      clear hr0 hb h
      go_enter Try.func23, Try.ntmps23
      go_wp2_with (at_builtin; refine Kd.R_append_rows Kd.string (Rr := Kd.K Kd.string w) (w0 := w) w.heap.size rfl _ _ 24 9 _ 16 rfl Try.underlying24 info9 rfl (by decide) (by decide) _ [] l0 (some ad) l0.length c0 (fun _ => True) (fun _ => False) rfl rfl HO.out HR.out (fun x cs hx => hx) (fun _ e => e.elim) (fun _ _ => trivial) HB.out (by simp) (by simpa using Hb.out) ?_)
      intro v1 w1 hR hB _ _
      have H1 := Lib.hid hR
      have H2 := Lib.hid hB
      clear hR hB
      go_wp2
      go_ret
      exact ⟨v1, rfl, by simpa using H1.out, H2.out⟩
end Go.Proofs.Ytelgfangaigncaa.G
