/- The row of the law SpansMix: for every input it returns true, and its arguments read as before; no condition beyond the form's own. -/
import Derived.Test.YtnlakdpfkgjdaaaDoorRows
import Derived.Test.YtnlakdpfkgjdaaaDoorTie
import Derived.Test.YtnlakdpfkgjdaaaDoorCards
import Derived.SevenTiedAt
import Derived.Test.YtnlakdpfkgjdaaaDoorKM1
import Derived.Test.YtnlakdpfkgjdaaaDoorKM2
import Derived.Test.YtnlakdpfkgjdaaaDoorKM3
namespace Go.Proofs.YtnlakdpfkgjdaaaDoor.spansMix
open Go.ChangeShapes Go.WideShapes Go.ChangeAt Go.RowKit Go.Cav
open Go.ChangeMaps (open_string shut_string)
set_option linter.unusedVariables false
theorem own : ownKnob Tryd.prog.godebug = none := by kernel_rfl
theorem laidOut : laidOutB Tryd.prog = true := by kernel_rfl
set_option maxRecDepth 100000 in
theorem lifted (os : Os) (started : os.Started) (H : Type) (enc : TypeId × Value → H) :
    ReturnsInHanded {} Tryd.checked os 7 .any (fun w args => (Rows.spansMixSpec.pre enc Tryd.prog Tryd.f7 Rows.spansMixRow.domain false w args ∧ laidMet Tryd.prog lst w) ∧ sizedMet enc Tryd.prog Tryd.f7 (OpenSpec.ofChange Rows.spansMixSpec) false w args)
      (Rows.spansMixSpec.post enc Tryd.prog Tryd.f7 false true false false) := by
  refine Go.Cav.handed_shaped (C := Tryd.checked) (X := fun w _ => laidMet Tryd.prog lst w) (fun _ _ _ hh h => h.of_heap hh) own started (by kernel_rfl) Tryd.func7
    (ChangeSpec.witness_at (enc := enc) (C := Tryd.checked) (os := os) (X := fun w _ => laidMet Tryd.prog lst w) false (laidWorld os) #[.slice none 0 0, .slice none 0 0] 8 rfl (by kernel_rfl) (by kernel_rfl) (by kernel_rfl) (by kernel_rfl) (by kernel_rfl) (laidWorld_met os _)) ?_
  intro W base args ds gs before hval0 hW hcnd hsz0 hL hSh_
  have hsz : (DataW.weightsEach Tryd.prog (Tryd.f7.params.toList ++ Rows.spansMixSpec.plain.varTypes Tryd.prog) (ds ++ gs)).all (· ≤ reachBytes) = true := hsz0
  have hval : ∀ (j : Nat) t v, Tryd.f7.params[j]? = some t → args[j]? = some v → Value.okWide Tryd.prog W .any base t v := hval0
  have hW' := hW
  obtain ⟨p, q, hA0, hV, rfl, hfz, hnd⟩ := hW
  have hA : DataW.TrodAll enc Tryd.prog W 0 (fun _ => true) true Tryd.f7.params.toList args.toList ds p := hA0
  rw [Tryd.params7] at hA hval hsz
  obtain ⟨v0, vs0, d0, ds0, p0, q0, hargs, rfl, rfl, h0, r0⟩ := trodAll_cons hA
  obtain ⟨v1, vs1, d1, ds1, p1, q1, rfl, rfl, rfl, h1, r1⟩ := trodAll_cons r0
  obtain ⟨rfl, rfl, rfl⟩ := trodAll_nil r1
  obtain rfl : args = #[v0, v1] := by cases args; simp_all
  obtain ⟨rfl, rfl⟩ := trodVars_none hV
  have k0 := h0
  have lt0 : ∀ x ∈ p0, x.block < W.heap.size := by obtain ⟨m, hm⟩ := k0; exact DataW.trod_lt m _ _ _ hm
  have fi0 : Fits Tryd.prog 23 d0 := fun k hk => by have := of_decide_eq_true (List.all_eq_true.1 hsz _ (DataW.weights_mem_each (j := 0) (t := 23) rfl rfl k hk)); unfold reachBytes at this; omega
  obtain ⟨a0, len0, cap0, rfl⟩ := okWide_slice Tryd.underlying23 (hval 0 23 v0 rfl rfl)
  obtain ⟨x0, w0⟩ : ∃ x, rSlice 2 16 rSp W [.slice a0 len0 cap0] x := by obtain ⟨fu, hf⟩ := h0; exact (opens_slice Tryd.underlying23 (by kernel_rfl) (by kernel_rfl) opens_sp) enc W fu _ _ _ hf fi0
  have k1 := h1
  have lt1 : ∀ x ∈ p1, x.block < W.heap.size := by obtain ⟨m, hm⟩ := k1; exact DataW.trod_lt m _ _ _ hm
  have fi1 : Fits Tryd.prog 23 d1 := fun k hk => by have := of_decide_eq_true (List.all_eq_true.1 hsz _ (DataW.weights_mem_each (j := 1) (t := 23) rfl rfl k hk)); unfold reachBytes at this; omega
  obtain ⟨a1, len1, cap1, rfl⟩ := okWide_slice Tryd.underlying23 (hval 1 23 v1 rfl rfl)
  obtain ⟨x1, w1⟩ : ∃ x, rSlice 2 16 rSp W [.slice a1 len1 cap1] x := by obtain ⟨fu, hf⟩ := h1; exact (opens_slice Tryd.underlying23 (by kernel_rfl) (by kernel_rfl) opens_sp) enc W fu _ _ _ hf fi1
  clear hA0 hval0 hsz0 hsz
  refine (spansMix_walk (W := W) (wd_of_laid hL hSh_) _ x0 w0 _ x1 w1).mono fun e W' ⟨he, bel⟩ => ?_
  subst he
  exact ⟨_, rfl, _, _, _, [], _, [], hW', trodAll_mk1 (shut_bool Tryd.underlying4 _), (trodAll_cons_mk (Below.trod laidOut (by kernel_rfl) (of_decide_eq_true (by kernel_rfl)) k0 bel lt0) (trodAll_cons_mk (Below.trod laidOut (by kernel_rfl) (of_decide_eq_true (by kernel_rfl)) k1 bel lt1) trodAll_mk0)), rfl, bel.frame _, fun h => by cases h⟩
theorem over : Rows.spansMixRow.holds Tryd.pinned (OpenSpec.ofChange Rows.spansMixSpec) :=
  OpenClaim.holds_of_wide 7 Tryd.f7 rfl rfl rfl rfl rfl rfl rfl ⟨rfl, rfl, rfl, rfl, rfl⟩ rfl rfl rfl rfl rfl (by kernel_rfl) Tryd.func7 (by kernel_rfl)
    (of_decide_eq_true (by kernel_rfl)) (by unfold Func.isWrapper; first | (rw [if_pos (by decide +kernel)]; kernel_rfl) | (rw [if_neg (by decide +kernel)]; exact ⟨rfl, rfl⟩))
    (fun os started H enc _ => lifted os started H enc)
theorem card : Rows.SpansMixCardSaid :=
  Claim7.holds_tied_plain_at .later [] [.data, .data, .data, .data, .sentinel, .sentinel, .pinned] true (true, "d72900064b8f22a1854539b66521d0ee296d4f79c6bd6e8b7a75999fc7e38e06") true
    over (fun _ h => by cases h) (by kernel_rfl) (fun _ h => by cases h) spansMix_row_tie rfl ⟨rfl, rfl⟩ (by kernel_rfl) rfl
    (fun f fn hf hfn => by
      obtain rfl : f = 7 := Option.some.inj ((show Tryd.prog.funcNamed Rows.spansMixRow.func = some 7 by kernel_rfl).symm.trans hf) |>.symm
      obtain rfl : fn = Tryd.f7 := (Option.some.inj (Tryd.func7.symm.trans hfn)).symm
      exact ⟨by kernel_rfl, fun j t ht => by
        have hall : Tryd.f7.params.toList.all (fun t => !Tryd.prog.wantsStandIn t) = true := by kernel_rfl
        have hm : t ∈ Tryd.f7.params.toList := by rw [Array.mem_toList_iff]; exact Array.mem_of_getElem? ht
        have hq := List.all_eq_true.1 hall t hm
        exact (show Tryd.prog.wantsStandIn t = false by simpa using hq)⟩)
    (by kernel_rfl)
end Go.Proofs.YtnlakdpfkgjdaaaDoor.spansMix
namespace Go.Proofs.YtnlakdpfkgjdaaaDoor
/-- The tied card, under a short name, for the claim. -/
theorem spansMix_holds : Rows.SpansMixCardSaid := spansMix.card
end Go.Proofs.YtnlakdpfkgjdaaaDoor
