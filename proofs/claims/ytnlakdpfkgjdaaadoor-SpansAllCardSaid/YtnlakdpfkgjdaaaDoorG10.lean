/- What functions of the translation come to, and their calls' proofs; by a program of mine over the kit's print, with contracts given by hand beside. Conditions: where a plain function tells none, nothing is said. -/
import Derived.Test.YtnlakdpfkgjdaaaDoorG0
import Derived.Test.YtnlakdpfkgjdaaaDoorG2
import Derived.Test.YtnlakdpfkgjdaaaDoorG6
import Derived.Test.YtnlakdpfkgjdaaaDoorG8
import Derived.Test.YtnlakdpfkgjdaaaDoorGHas
import Derived.Test.YtnlakdpfkgjdaaaDoorGMay
import Derived.Test.YtnlakdpfkgjdaaaDoorGNorm
import Derived.Test.YtnlakdpfkgjdaaaDoorGText
namespace Go.Proofs.YtnlakdpfkgjdaaaDoor.G
open Go.RowKit Go.Proofs.YtnlakdpfkgjdaaaDoorW.PrintWords Go.Proofs.YtnlakdpfkgjdaaaDoorW.PrintLast Go.Proofs.YtnlakdpfkgjdaaaDoorW.PrintMore
attribute [local go_sem] max2_int min2_int max_two min_two max_three min_three max_four min_four   -- for this text's walks alone
set_option linter.unusedVariables false
set_option linter.unusedSimpArgs false

/-! ### caravanref1_Count: function 21 -/
def caravanref1_Count.l0 : Nat → Int → List (S31) → Int → Option (Int)
 | 0, _, _, _ => none
 | k + 1, x3, x4, x5 => if x5 < (x4.length : Int) then (if 0 ≤ x5 then (caravanref1_Count.l0 k (wrap64 ((wrap64 ((wrap64 (x3 + ((rd_T31 x4 x5).f1))) - ((rd_T31 x4 x5).f0))) + 1)) x4 (wrap64 (x5 + 1))) else (none)) else (some x3)
def caravanref1_Count.f (k : Nat) (l0 : List (S31)) : Option (Int) := (caravanref1_Norm.f k l0).bind fun t302 => (caravanref1_Count.l0 k 0 t302 0)
theorem caravanref1_Count.mono_l : ∀ k, (∀ y0 y1 y2, LeO (caravanref1_Count.l0 k y0 y1 y2) (caravanref1_Count.l0 (k + 1) y0 y1 y2))
 | 0 => fun _ _ _ r h => by simp [caravanref1_Count.l0] at h
 | k + 1 => by
  have ih0 := caravanref1_Count.mono_l k
  ·intro y0 y1 y2
   unfold caravanref1_Count.l0
   repeat' first
   | (with_reducible exact ih0 _ _ _)
   | (with_reducible exact caravanref1_Norm.mono _ _)
   | (with_reducible exact LeO.refl _)
   | (with_reducible exact LeO.none _)
   | (with_reducible refine LeO.ite ?_ ?_)
   | (with_reducible refine LeO.bind ?_ (fun _ => ?_))
   | exact ih0 _ _ _
   | exact caravanref1_Norm.mono _ _
   | exact LeO.none _
   | refine LeO.ite ?_ ?_
   | refine LeO.bind ?_ (fun _ => ?_)
theorem caravanref1_Count.mono : ∀ a0 k, LeO (caravanref1_Count.f k a0) (caravanref1_Count.f (k + 1) a0) := by
 intro a0 k
 have ih0 := caravanref1_Count.mono_l k
 unfold caravanref1_Count.f
 repeat' first
  | (with_reducible exact ih0 _ _ _)
  | (with_reducible exact caravanref1_Norm.mono _ _)
  | (with_reducible exact LeO.refl _)
  | (with_reducible exact LeO.none _)
  | (with_reducible refine LeO.ite ?_ ?_)
  | (with_reducible refine LeO.bind ?_ (fun _ => ?_))
  | exact ih0 _ _ _
  | exact caravanref1_Norm.mono _ _
  | exact LeO.none _
  | refine LeO.ite ?_ ?_
  | refine LeO.bind ?_ (fun _ => ?_)
set_option maxHeartbeats 8000000 in
set_option maxRecDepth 100000 in
theorem caravanref1_Count.calls (k : Nat) (A0 : Option Addr) (c0 : Nat) (l0 : List (S31)) (r : Int) (w : World) (hr0 : Kd.C k31 w A0 l0.length l0) (hc0 : l0.length ≤ c0) (h : caravanref1_Count.f k l0 = some r) :
 Calls Tryd.prog 21 #[.slice A0 l0.length c0] w fun e w' => e = .returned (.int .i64 r) ∧ Below w.heap.size w w' := by
 have HR0 := Aside0.mk hr0
 have HC0 := Aside0.mk hc0
 clear hr0 hc0
 have HB := Aside0.mk (Below.refl w.heap.size w)
 have H : ((caravanref1_Norm.f k l0).bind fun t302 => (caravanref1_Count.l0 k 0 t302 0)) = some r := h
 clear h
 replace H := Option.bind_eq_some_iff.mp H
 obtain ⟨t302, A20, H⟩ := H
 replace H : (caravanref1_Count.l0 k 0 t302 0) = some r := H
 have A2 := Aside0.mk A20
 clear A20
 have H' := Aside0.mk H
 clear H
 go_enter Tryd.func21, Tryd.ntmps21
 go_wp2_with (first | (go_at_call 17; (with_reducible refine (caravanref1_Norm.calls k _ _ l0 t302 _ ?side1 ?side2 A2.out).mono ?_); (case side1 => exact qC_ (HR0.out)); (case side2 => exact HC0.out); rintro e w3 ⟨v303, rfl, ho0, hb⟩; have n0_ := Aside0.mk (Kd.R_lower ho0 (below_size (qdb35_ HB.out))); have n1_ := Aside0.mk (below_step (qdb35_ HB.out) hb); clear HB; have HO304 := n0_; have HB := n1_; clear n0_ n1_; (try clear hb); (try clear hb2); (try clear hk); (try clear hi); (try clear ho0)))
 repeat (go_quiet (first | (go_at_call 17; (with_reducible refine (caravanref1_Norm.calls k _ _ l0 t302 _ ?side1 ?side2 A2.out).mono ?_); (case side1 => exact qC_ (HR0.out)); (case side2 => exact HC0.out); rintro e w3 ⟨v303, rfl, ho0, hb⟩; have n0_ := Aside0.mk (Kd.R_lower ho0 (below_size (qdb35_ HB.out))); have n1_ := Aside0.mk (below_step (qdb35_ HB.out) hb); clear HB; have HO304 := n0_; have HB := n1_; clear n0_ n1_; (try clear hb); (try clear hb2); (try clear hk); (try clear hi); (try clear ho0))); try go_wp2_with (first | (go_at_call 17; (with_reducible refine (caravanref1_Norm.calls k _ _ l0 t302 _ ?side1 ?side2 A2.out).mono ?_); (case side1 => exact qC_ (HR0.out)); (case side2 => exact HC0.out); rintro e w3 ⟨v303, rfl, ho0, hb⟩; have n0_ := Aside0.mk (Kd.R_lower ho0 (below_size (qdb35_ HB.out))); have n1_ := Aside0.mk (below_step (qdb35_ HB.out) hb); clear HB; have HO304 := n0_; have HB := n1_; clear n0_ n1_; (try clear hb); (try clear hb2); (try clear hk); (try clear hi); (try clear ho0))))
 go_loopg [3, 5] k (fun kq v3 v5 w' => ∃ (x3_1 : Int) (x5_1 : Int), v3 = .int .i64 x3_1 ∧ v5 = .int .i64 x5_1 ∧ Aside0 (caravanref1_Count.l0 kq x3_1 t302 x5_1 = some r) ∧ Aside0 (kq ≤ k) ∧ Aside0 (Kd.R k31 31 w' w.heap.size (fun _ => True) v303 t302) ∧ Aside0 (Below w.heap.size w w'))
 case atStart => exact ⟨(0), (0), (by first | rfl | (simp; done) | (simp [*]; done)), (by first | rfl | (simp; done) | (simp [*]; done)), H', ⟨Nat.le_refl _⟩, ⟨by (with_reducible repeat (first | apply Kd.R_alloc | apply Kd.R_drewN | apply Kd.R_drew)); exact HO304.out⟩, ⟨(qdb35_ HB.out)⟩⟩
 case round =>
  clear H'
  try clear c2
  try clear p2
  obtain ⟨x3_1, x5_1, rfl, rfl, HA, HK1, HO_4, HB⟩ := hrel
  cases gk with
  | zero => exact absurd HA.out (by simp [caravanref1_Count.l0])
  | succ k1 =>
   have H := HA.out
   clear HA
   simp only [caravanref1_Count.l0] at H
   by_cases c4 : x5_1 < (t302.length : Int)
   ·rw [if_pos c4] at H
    have c4b0 : decide (x5_1 < (t302.length : Int)) = true := decide_eq_true c4
    clear c4
    by_cases c5 : 0 ≤ x5_1
    ·rw [if_pos c5] at H
     have c5b0 : decide (0 ≤ x5_1) = true := decide_eq_true c5
     clear c5
     have H' := Aside0.mk H
     clear H
     obtain ⟨Ao6, co6, eo6⟩ := Kd.R_slice HO_4.out
     subst eo6
     have p305 : 0 ≤ (x5_1 : Int) := of_decide_eq_true (by first | (with_reducible assumption) | assumption)
     have q305 : x5_1 < (t302.length : Int) := of_decide_eq_true (by first | (with_reducible assumption) | assumption)
     obtain ⟨ad305, e305, hx305_0, hx305_1⟩ := at_T31 (Kd.R_reads' HO_4.out).2.2 x5_1 p305 q305
     cases e305
     replace p305 := eq_true p305
     replace q305 := eq_true q305
     have p306 : 0 ≤ (x5_1 : Int) := of_decide_eq_true (by first | (with_reducible assumption) | assumption)
     have q306 : x5_1 < (t302.length : Int) := of_decide_eq_true (by first | (with_reducible assumption) | assumption)
     obtain ⟨ad306, e306, hx306_0, hx306_1⟩ := at_T31 (Kd.R_reads' HO_4.out).2.2 x5_1 p306 q306
     obtain rfl : ad305 = ad306 := (by injection e306)
     replace p306 := eq_true p306
     replace q306 := eq_true q306
     go_wp2
     repeat (go_quiet (fail); try go_wp2)
     go_roundg k1
     case measure => have := HK1.out; omega
     case rel => exact ⟨(wrap64 ((wrap64 ((wrap64 (x3_1 + ((rd_T31 t302 x5_1).f1))) - ((rd_T31 t302 x5_1).f0))) + 1)), (wrap64 (x5_1 + 1)), (by first | rfl | (simp; done) | (simp [*]; done)), (by first | rfl | (simp; done) | (simp [*]; done)), H', ⟨by have := HK1.out; omega⟩, ⟨by (with_reducible repeat (first | apply Kd.R_alloc | apply Kd.R_drewN | apply Kd.R_drew)); exact HO_4.out⟩, ⟨(qdb35_ HB.out)⟩⟩
    ·rw [if_neg c5] at H
     exact absurd H (by simp)
   ·rw [if_neg c4] at H
    have c4b0 : decide (x5_1 < (t302.length : Int)) = false := decide_eq_false c4
    clear c4
    obtain rfl := Option.some.inj H
    obtain ⟨Ao7, co7, eo7⟩ := Kd.R_slice HO_4.out
    subst eo7
    go_wp2
    repeat (go_quiet (fail); try go_wp2)
    go_ret
    exact ⟨by first | rfl | (simp [errW_none, errW_some] <;> rfl) | (simp [*, errW_none, errW_some] <;> rfl), (qdb35_ HB.out)⟩

/-! ### caravanlaw2_SpansAll: function 5 -/
def caravanlaw2_SpansAll.f (k : Nat) (l0 : List (S31)) (a1 : Int) : Option (Bool) := if (l0.length : Int) > 40 then ((caravanlaw2_awake.f k).bind fun t307 => (some t307)) else ((spans_May.f k l0).bind fun t308 => ((caravanref1_MaySpans.f k l0).bind fun t309 => (if (t308 == t309) = true then ((spans_Norm.f k l0).bind fun t310 => ((caravanref1_Norm.f k l0).bind fun t313 => ((caravanref1_SameSpans.f k t310 t313).bind fun t316 => (if t316 = true then ((spans_Has.f l0 a1).bind fun t317 => ((caravanref1_Has.f k l0 a1).bind fun t318 => (if (t317 == t318) = true then ((spans_Count.f k l0).bind fun t319 => ((caravanref1_Count.f k l0).bind fun t320 => (if t319 = t320 then ((spans_Text.f k l0).bind fun t321 => ((caravanref1_SpanText.f k l0).bind fun t322 => (if t321.toList = t322.toList then ((caravanlaw2_awake.f k).bind fun t323 => (some t323)) else (some false)))) else (some false)))) else (some false)))) else (some false))))) else (some false))))
theorem caravanlaw2_SpansAll.mono : ∀ a0 a1 k, LeO (caravanlaw2_SpansAll.f k a0 a1) (caravanlaw2_SpansAll.f (k + 1) a0 a1) := by
 intro a0 a1 k
 unfold caravanlaw2_SpansAll.f
 repeat' first
  | (with_reducible exact caravanlaw2_awake.mono _)
  | (with_reducible exact caravanref1_Count.mono _ _)
  | (with_reducible exact caravanref1_Has.mono _ _ _)
  | (with_reducible exact caravanref1_MaySpans.mono _ _)
  | (with_reducible exact caravanref1_Norm.mono _ _)
  | (with_reducible exact caravanref1_SameSpans.mono _ _ _)
  | (with_reducible exact caravanref1_SpanText.mono _ _)
  | (with_reducible exact spans_Count.mono _ _)
  | (with_reducible exact spans_May.mono _ _)
  | (with_reducible exact spans_Norm.mono _ _)
  | (with_reducible exact spans_Text.mono _ _)
  | (with_reducible exact LeO.refl _)
  | (with_reducible exact LeO.none _)
  | (with_reducible refine LeO.ite ?_ ?_)
  | (with_reducible refine LeO.bind ?_ (fun _ => ?_))
  | exact caravanlaw2_awake.mono _
  | exact caravanref1_Count.mono _ _
  | exact caravanref1_Has.mono _ _ _
  | exact caravanref1_MaySpans.mono _ _
  | exact caravanref1_Norm.mono _ _
  | exact caravanref1_SameSpans.mono _ _ _
  | exact caravanref1_SpanText.mono _ _
  | exact spans_Count.mono _ _
  | exact spans_May.mono _ _
  | exact spans_Norm.mono _ _
  | exact spans_Text.mono _ _
  | exact LeO.none _
  | refine LeO.ite ?_ ?_
  | refine LeO.bind ?_ (fun _ => ?_)
set_option maxHeartbeats 8000000 in
set_option maxRecDepth 100000 in
theorem caravanlaw2_SpansAll.calls (k : Nat) (A0 : Option Addr) (c0 : Nat) (l0 : List (S31)) (a1 : Int) (r : Bool) (w : World) (hr0 : Kd.C k31 w A0 l0.length l0) (hc0 : l0.length ≤ c0) (h : caravanlaw2_SpansAll.f k l0 a1 = some r) (hrt_ : r = true) (hWd_ : Wd w) :
 Calls Tryd.prog 5 #[.slice A0 l0.length c0, .int .i64 a1] w fun e w' => e = .returned (.bool r) ∧ Below w.heap.size w w' := by
 have HR0 := Aside0.mk hr0
 have HC0 := Aside0.mk hc0
 clear hr0 hc0
 have HB := Aside0.mk (Below.refl w.heap.size w)
 have H : (if (l0.length : Int) > 40 then ((caravanlaw2_awake.f k).bind fun t307 => (some t307)) else ((spans_May.f k l0).bind fun t308 => ((caravanref1_MaySpans.f k l0).bind fun t309 => (if (t308 == t309) = true then ((spans_Norm.f k l0).bind fun t310 => ((caravanref1_Norm.f k l0).bind fun t313 => ((caravanref1_SameSpans.f k t310 t313).bind fun t316 => (if t316 = true then ((spans_Has.f l0 a1).bind fun t317 => ((caravanref1_Has.f k l0 a1).bind fun t318 => (if (t317 == t318) = true then ((spans_Count.f k l0).bind fun t319 => ((caravanref1_Count.f k l0).bind fun t320 => (if t319 = t320 then ((spans_Text.f k l0).bind fun t321 => ((caravanref1_SpanText.f k l0).bind fun t322 => (if t321.toList = t322.toList then ((caravanlaw2_awake.f k).bind fun t323 => (some t323)) else (some false)))) else (some false)))) else (some false)))) else (some false))))) else (some false))))) = some r := h
 clear h
 by_cases c3 : (l0.length : Int) > 40
 ·rw [if_pos c3] at H
  have c3b0 : decide (40 < (l0.length : Int)) = true := decide_eq_true c3
  have c3b1 : decide (40 < l0.length) = true := decide_eq_true (by omega)
  clear c3
  replace H := Option.bind_eq_some_iff.mp H
  obtain ⟨t307, A40, H⟩ := H
  replace H : (some t307) = some r := H
  have A4 := Aside0.mk A40
  clear A40
  obtain rfl := Option.some.inj H
  go_enter Tryd.func5, Tryd.ntmps5
  go_wp2_with (first | ((with_reducible refine gate_callee (f := 9) rfl ?_); refine goesL_ (some 8) rfl rfl Tryd.func9 (by kernel_rfl) rfl #[] rfl qM_ ?_; (with_reducible refine (caravanlaw2_awake.calls k  t307 _ A4.out (Wd.of hWd_ (qdb35_ HB.out))).mono ?_); rintro e w5 ⟨rfl, hb⟩; refine ⟨_, rfl, ?_⟩; have n0_ := Aside0.mk (below_step (qdb35_ HB.out) hb); clear HB; have HB := n0_; clear n0_; (try clear hb); (try clear hb2); (try clear hk); (try clear hi)))
  go_ret
  exact ⟨by first | rfl | (simp [errW_none, errW_some] <;> rfl) | (simp [*, errW_none, errW_some] <;> rfl), (qdb35_ HB.out)⟩
 ·rw [if_neg c3] at H
  have c3b0 : decide (40 < (l0.length : Int)) = false := decide_eq_false c3
  have c3b1 : decide (40 < l0.length) = false := decide_eq_false (by omega)
  clear c3
  replace H := Option.bind_eq_some_iff.mp H
  obtain ⟨t308, A60, H⟩ := H
  replace H : ((caravanref1_MaySpans.f k l0).bind fun t309 => (if (t308 == t309) = true then ((spans_Norm.f k l0).bind fun t310 => ((caravanref1_Norm.f k l0).bind fun t313 => ((caravanref1_SameSpans.f k t310 t313).bind fun t316 => (if t316 = true then ((spans_Has.f l0 a1).bind fun t317 => ((caravanref1_Has.f k l0 a1).bind fun t318 => (if (t317 == t318) = true then ((spans_Count.f k l0).bind fun t319 => ((caravanref1_Count.f k l0).bind fun t320 => (if t319 = t320 then ((spans_Text.f k l0).bind fun t321 => ((caravanref1_SpanText.f k l0).bind fun t322 => (if t321.toList = t322.toList then ((caravanlaw2_awake.f k).bind fun t323 => (some t323)) else (some false)))) else (some false)))) else (some false)))) else (some false))))) else (some false))) = some r := H
  have A6 := Aside0.mk A60
  clear A60
  replace H := Option.bind_eq_some_iff.mp H
  obtain ⟨t309, A70, H⟩ := H
  replace H : (if (t308 == t309) = true then ((spans_Norm.f k l0).bind fun t310 => ((caravanref1_Norm.f k l0).bind fun t313 => ((caravanref1_SameSpans.f k t310 t313).bind fun t316 => (if t316 = true then ((spans_Has.f l0 a1).bind fun t317 => ((caravanref1_Has.f k l0 a1).bind fun t318 => (if (t317 == t318) = true then ((spans_Count.f k l0).bind fun t319 => ((caravanref1_Count.f k l0).bind fun t320 => (if t319 = t320 then ((spans_Text.f k l0).bind fun t321 => ((caravanref1_SpanText.f k l0).bind fun t322 => (if t321.toList = t322.toList then ((caravanlaw2_awake.f k).bind fun t323 => (some t323)) else (some false)))) else (some false)))) else (some false)))) else (some false))))) else (some false)) = some r := H
  have A7 := Aside0.mk A70
  clear A70
  by_cases c8 : (t308 == t309) = true
  ·rw [if_pos c8] at H
   have c8b0 : (t308 == t309) = true := c8
   (try (have c8b1 : decide (t308 = t309) = true := by simpa using c8))
   (try (have c8b2 : (t308 == t309) = true := by simpa using c8))
   clear c8
   replace H := Option.bind_eq_some_iff.mp H
   obtain ⟨t310, A90, H⟩ := H
   replace H : ((caravanref1_Norm.f k l0).bind fun t313 => ((caravanref1_SameSpans.f k t310 t313).bind fun t316 => (if t316 = true then ((spans_Has.f l0 a1).bind fun t317 => ((caravanref1_Has.f k l0 a1).bind fun t318 => (if (t317 == t318) = true then ((spans_Count.f k l0).bind fun t319 => ((caravanref1_Count.f k l0).bind fun t320 => (if t319 = t320 then ((spans_Text.f k l0).bind fun t321 => ((caravanref1_SpanText.f k l0).bind fun t322 => (if t321.toList = t322.toList then ((caravanlaw2_awake.f k).bind fun t323 => (some t323)) else (some false)))) else (some false)))) else (some false)))) else (some false)))) = some r := H
   have A9 := Aside0.mk A90
   clear A90
   replace H := Option.bind_eq_some_iff.mp H
   obtain ⟨t313, A100, H⟩ := H
   replace H : ((caravanref1_SameSpans.f k t310 t313).bind fun t316 => (if t316 = true then ((spans_Has.f l0 a1).bind fun t317 => ((caravanref1_Has.f k l0 a1).bind fun t318 => (if (t317 == t318) = true then ((spans_Count.f k l0).bind fun t319 => ((caravanref1_Count.f k l0).bind fun t320 => (if t319 = t320 then ((spans_Text.f k l0).bind fun t321 => ((caravanref1_SpanText.f k l0).bind fun t322 => (if t321.toList = t322.toList then ((caravanlaw2_awake.f k).bind fun t323 => (some t323)) else (some false)))) else (some false)))) else (some false)))) else (some false))) = some r := H
   have A10 := Aside0.mk A100
   clear A100
   replace H := Option.bind_eq_some_iff.mp H
   obtain ⟨t316, A110, H⟩ := H
   replace H : (if t316 = true then ((spans_Has.f l0 a1).bind fun t317 => ((caravanref1_Has.f k l0 a1).bind fun t318 => (if (t317 == t318) = true then ((spans_Count.f k l0).bind fun t319 => ((caravanref1_Count.f k l0).bind fun t320 => (if t319 = t320 then ((spans_Text.f k l0).bind fun t321 => ((caravanref1_SpanText.f k l0).bind fun t322 => (if t321.toList = t322.toList then ((caravanlaw2_awake.f k).bind fun t323 => (some t323)) else (some false)))) else (some false)))) else (some false)))) else (some false)) = some r := H
   have A11 := Aside0.mk A110
   clear A110
   by_cases c12 : t316 = true
   ·subst c12
    have H1 : ((spans_Has.f l0 a1).bind fun t317 => ((caravanref1_Has.f k l0 a1).bind fun t318 => (if (t317 == t318) = true then ((spans_Count.f k l0).bind fun t319 => ((caravanref1_Count.f k l0).bind fun t320 => (if t319 = t320 then ((spans_Text.f k l0).bind fun t321 => ((caravanref1_SpanText.f k l0).bind fun t322 => (if t321.toList = t322.toList then ((caravanlaw2_awake.f k).bind fun t323 => (some t323)) else (some false)))) else (some false)))) else (some false)))) = some r := by rw [if_pos rfl] at H; exact H
    clear H
    have H := H1
    clear H1
    replace H := Option.bind_eq_some_iff.mp H
    obtain ⟨t317, A130, H⟩ := H
    replace H : ((caravanref1_Has.f k l0 a1).bind fun t318 => (if (t317 == t318) = true then ((spans_Count.f k l0).bind fun t319 => ((caravanref1_Count.f k l0).bind fun t320 => (if t319 = t320 then ((spans_Text.f k l0).bind fun t321 => ((caravanref1_SpanText.f k l0).bind fun t322 => (if t321.toList = t322.toList then ((caravanlaw2_awake.f k).bind fun t323 => (some t323)) else (some false)))) else (some false)))) else (some false))) = some r := H
    have A13 := Aside0.mk A130
    clear A130
    replace H := Option.bind_eq_some_iff.mp H
    obtain ⟨t318, A140, H⟩ := H
    replace H : (if (t317 == t318) = true then ((spans_Count.f k l0).bind fun t319 => ((caravanref1_Count.f k l0).bind fun t320 => (if t319 = t320 then ((spans_Text.f k l0).bind fun t321 => ((caravanref1_SpanText.f k l0).bind fun t322 => (if t321.toList = t322.toList then ((caravanlaw2_awake.f k).bind fun t323 => (some t323)) else (some false)))) else (some false)))) else (some false)) = some r := H
    have A14 := Aside0.mk A140
    clear A140
    by_cases c15 : (t317 == t318) = true
    ·rw [if_pos c15] at H
     have c15b0 : (t317 == t318) = true := c15
     (try (have c15b1 : decide (t317 = t318) = true := by simpa using c15))
     (try (have c15b2 : (t317 == t318) = true := by simpa using c15))
     clear c15
     replace H := Option.bind_eq_some_iff.mp H
     obtain ⟨t319, A160, H⟩ := H
     replace H : ((caravanref1_Count.f k l0).bind fun t320 => (if t319 = t320 then ((spans_Text.f k l0).bind fun t321 => ((caravanref1_SpanText.f k l0).bind fun t322 => (if t321.toList = t322.toList then ((caravanlaw2_awake.f k).bind fun t323 => (some t323)) else (some false)))) else (some false))) = some r := H
     have A16 := Aside0.mk A160
     clear A160
     replace H := Option.bind_eq_some_iff.mp H
     obtain ⟨t320, A170, H⟩ := H
     replace H : (if t319 = t320 then ((spans_Text.f k l0).bind fun t321 => ((caravanref1_SpanText.f k l0).bind fun t322 => (if t321.toList = t322.toList then ((caravanlaw2_awake.f k).bind fun t323 => (some t323)) else (some false)))) else (some false)) = some r := H
     have A17 := Aside0.mk A170
     clear A170
     by_cases c18 : t319 = t320
     ·rw [if_pos c18] at H
      have c18b0 : (t319 == t320) = true := beq_iff_eq.mpr c18
      have c18b1 : (t319 != t320) = false := bne_eq_false_iff_eq.mpr c18
      clear c18
      replace H := Option.bind_eq_some_iff.mp H
      obtain ⟨t321, A190, H⟩ := H
      replace H : ((caravanref1_SpanText.f k l0).bind fun t322 => (if t321.toList = t322.toList then ((caravanlaw2_awake.f k).bind fun t323 => (some t323)) else (some false))) = some r := H
      have A19 := Aside0.mk A190
      clear A190
      replace H := Option.bind_eq_some_iff.mp H
      obtain ⟨t322, A200, H⟩ := H
      replace H : (if t321.toList = t322.toList then ((caravanlaw2_awake.f k).bind fun t323 => (some t323)) else (some false)) = some r := H
      have A20 := Aside0.mk A200
      clear A200
      by_cases c21 : t321.toList = t322.toList
      ·rw [if_pos c21] at H
       have c21b0 : (t321.toList == t322.toList) = true := beq_iff_eq.mpr c21
       have c21b1 : (t321.toList != t322.toList) = false := bne_eq_false_iff_eq.mpr c21
       clear c21
       replace H := Option.bind_eq_some_iff.mp H
       obtain ⟨t323, A220, H⟩ := H
       replace H : (some t323) = some r := H
       have A22 := Aside0.mk A220
       clear A220
       obtain rfl := Option.some.inj H
       go_enter Tryd.func5, Tryd.ntmps5
       go_wp2_with (first | ((with_reducible refine gate_callee (f := 14) rfl ?_); refine goesL_ (some 10) rfl rfl Tryd.func14 (by kernel_rfl) rfl #[.slice A0 l0.length c0] rfl qM_ ?_; (with_reducible refine (spans_May.calls k _ _ l0 t308 _ ?side1 ?side2 A6.out).mono ?_); (case side1 => exact qC_ (HR0.out)); (case side2 => exact HC0.out); rintro e w23 ⟨rfl, hb⟩; refine ⟨_, rfl, ?_⟩; have n0_ := Aside0.mk (below_step (qdb35_ HB.out) hb); clear HB; have HB := n0_; clear n0_; (try clear hb); (try clear hb2); (try clear hk); (try clear hi)) | ((with_reducible refine gate_callee (f := 15) rfl ?_); refine goesL_ (some 12) rfl rfl Tryd.func15 (by kernel_rfl) rfl #[.slice A0 l0.length c0] rfl qM_ ?_; (with_reducible refine (caravanref1_MaySpans.calls k _ _ l0 t309 _ ?side1 ?side2 A7.out).mono ?_); (case side1 => exact qC_ ((Kd.C_below HR0.out HB.out))); (case side2 => exact HC0.out); rintro e w' ⟨rfl, ⟨nd, rfl⟩⟩; refine ⟨_, rfl, ?_⟩) | (go_at_call 16; (with_reducible refine (spans_Norm.calls k _ _ l0 t310 _ ?side1 ?side2 A9.out).mono ?_); (case side1 => repeat (first | exact (Kd.C_below HR0.out (qdb35_ HB.out)) | (with_reducible refine Kd.C_alloc ?_ _) | (with_reducible refine Kd.C_drewN ?_ _) | (with_reducible refine Kd.C_drew ?_))); (case side2 => exact HC0.out); rintro e w24 ⟨v311, rfl, ho0, hb⟩; have n0_ := Aside0.mk (Kd.R_lower ho0 (below_size (qdb35_ HB.out))); have n1_ := Aside0.mk (below_step (qdb35_ HB.out) hb); clear HB; have HO312 := n0_; have HB := n1_; clear n0_ n1_; (try clear hb); (try clear hb2); (try clear hk); (try clear hi); (try clear ho0)) | (go_at_call 17; (with_reducible refine (caravanref1_Norm.calls k _ _ l0 t313 _ ?side1 ?side2 A10.out).mono ?_); (case side1 => exact qC_ ((Kd.C_below HR0.out HB.out))); (case side2 => exact HC0.out); rintro e w25 ⟨v314, rfl, ho0, hb⟩; have n0_ := Aside0.mk (Kd.R_elder' (q8524_ HO312.out) (Kd.R_base ho0) hb); have n1_ := Aside0.mk (Kd.R_lower (Kd.R_new' ho0 (Kd.R_lt (q8524_ HO312.out))) (below_size (qdb35_ HB.out))); have n2_ := Aside0.mk (below_step (qdb35_ HB.out) hb); clear HO312; clear HB; have HO312 := n0_; have HO315 := n1_; have HB := n2_; clear n0_ n1_ n2_; (try clear hb); (try clear hb2); (try clear hk); (try clear hi); (try clear ho0); obtain ⟨Ao26, co26, eo26⟩ := Kd.R_slice HO312.out; subst eo26; obtain ⟨Ao27, co27, eo27⟩ := Kd.R_slice HO315.out; subst eo27) | (go_at_call 12; (with_reducible refine (caravanref1_SameSpans.calls k _ _ t310 _ _ t313 true _ ?side1 ?side2 ?side3 ?side4 A11.out).mono ?_); (case side1 => exact qC_ ((Kd.R_reads' HO312.out).2.2)); (case side2 => exact (Kd.R_reads' HO312.out).2.1); (case side3 => exact qC_ ((Kd.R_reads' HO315.out).2.2)); (case side4 => exact (Kd.R_reads' HO315.out).2.1); rintro e w' ⟨rfl, ⟨nd, rfl⟩⟩) | (go_at_call 18; (with_reducible refine (spans_Has.calls _ _ l0 a1 t317 _ ?side1 ?side2 A13.out).mono ?_); (case side1 => repeat (first | exact (Kd.C_below HR0.out (qdb35_ HB.out)) | (with_reducible refine Kd.C_alloc ?_ _) | (with_reducible refine Kd.C_drewN ?_ _) | (with_reducible refine Kd.C_drew ?_))); (case side2 => exact HC0.out); rintro e w28 ⟨rfl, hb⟩; have n0_ := Aside0.mk (Kd.R_below (q8524_ HO312.out) hb); have n1_ := Aside0.mk (Kd.R_below (q8524_ HO315.out) hb); have n2_ := Aside0.mk (below_step (qdb35_ HB.out) hb); clear HO312; clear HO315; clear HB; have HO312 := n0_; have HO315 := n1_; have HB := n2_; clear n0_ n1_ n2_; (try clear hb); (try clear hb2); (try clear hk); (try clear hi)) | (go_at_call 19; (with_reducible refine (caravanref1_Has.calls k _ _ l0 a1 t318 _ ?side1 ?side2 A14.out).mono ?_); (case side1 => exact qC_ ((Kd.C_below HR0.out HB.out))); (case side2 => exact HC0.out); rintro e w' ⟨rfl, ⟨nd, rfl⟩⟩) | (go_at_call 20; (with_reducible refine (spans_Count.calls k _ _ l0 t319 _ ?side1 ?side2 A16.out).mono ?_); (case side1 => repeat (first | exact (Kd.C_below HR0.out (qdb35_ HB.out)) | (with_reducible refine Kd.C_alloc ?_ _) | (with_reducible refine Kd.C_drewN ?_ _) | (with_reducible refine Kd.C_drew ?_))); (case side2 => exact HC0.out); rintro e w29 ⟨rfl, hb⟩; have n0_ := Aside0.mk (Kd.R_below (q8524_ HO312.out) hb); have n1_ := Aside0.mk (Kd.R_below (q8524_ HO315.out) hb); have n2_ := Aside0.mk (below_step (qdb35_ HB.out) hb); clear HO312; clear HO315; clear HB; have HO312 := n0_; have HO315 := n1_; have HB := n2_; clear n0_ n1_ n2_; (try clear hb); (try clear hb2); (try clear hk); (try clear hi)) | (go_at_call 21; (with_reducible refine (caravanref1_Count.calls k _ _ l0 t320 _ ?side1 ?side2 A17.out).mono ?_); (case side1 => exact qC_ ((Kd.C_below HR0.out HB.out))); (case side2 => exact HC0.out); rintro e w30 ⟨rfl, hb⟩; have n0_ := Aside0.mk (Kd.R_below (q8524_ HO312.out) hb); have n1_ := Aside0.mk (Kd.R_below (q8524_ HO315.out) hb); have n2_ := Aside0.mk (below_step (qdb35_ HB.out) hb); clear HO312; clear HO315; clear HB; have HO312 := n0_; have HO315 := n1_; have HB := n2_; clear n0_ n1_ n2_; (try clear hb); (try clear hb2); (try clear hk); (try clear hi)) | (go_at_call 22; (with_reducible refine (spans_Text.calls k _ _ l0 t321 _ ?side1 ?side2 A19.out (Wd.of hWd_ (qdb35_ HB.out))).mono ?_); (case side1 => exact qC_ ((Kd.C_below HR0.out HB.out))); (case side2 => exact HC0.out); rintro e w31 ⟨rfl, hb⟩; have n0_ := Aside0.mk (Kd.R_below (q8524_ HO312.out) hb); have n1_ := Aside0.mk (Kd.R_below (q8524_ HO315.out) hb); have n2_ := Aside0.mk (below_step (qdb35_ HB.out) hb); clear HO312; clear HO315; clear HB; have HO312 := n0_; have HO315 := n1_; have HB := n2_; clear n0_ n1_ n2_; (try clear hb); (try clear hb2); (try clear hk); (try clear hi)) | (go_at_call 23; (with_reducible refine (caravanref1_SpanText.calls k _ _ l0 t322 _ ?side1 ?side2 A20.out).mono ?_); (case side1 => exact qC_ ((Kd.C_below HR0.out HB.out))); (case side2 => exact HC0.out); rintro e w32 ⟨rfl, hb⟩; have n0_ := Aside0.mk (Kd.R_below (q8524_ HO312.out) hb); have n1_ := Aside0.mk (Kd.R_below (q8524_ HO315.out) hb); have n2_ := Aside0.mk (below_step (qdb35_ HB.out) hb); clear HO312; clear HO315; clear HB; have HO312 := n0_; have HO315 := n1_; have HB := n2_; clear n0_ n1_ n2_; (try clear hb); (try clear hb2); (try clear hk); (try clear hi)) | (go_at_call 9; (with_reducible refine (caravanlaw2_awake.calls k  t323 _ A22.out (Wd.of hWd_ (qdb35_ HB.out))).mono ?_); rintro e w33 ⟨rfl, hb⟩; have n0_ := Aside0.mk (Kd.R_below (q8524_ HO312.out) hb); have n1_ := Aside0.mk (Kd.R_below (q8524_ HO315.out) hb); have n2_ := Aside0.mk (below_step (qdb35_ HB.out) hb); clear HO312; clear HO315; clear HB; have HO312 := n0_; have HO315 := n1_; have HB := n2_; clear n0_ n1_ n2_; (try clear hb); (try clear hb2); (try clear hk); (try clear hi)))
       go_ret
       exact ⟨by first | rfl | (simp [errW_none, errW_some] <;> rfl) | (simp [*, errW_none, errW_some] <;> rfl), (qdb35_ HB.out)⟩
      ·rw [if_neg c21] at H
       have c21b0 : (t321.toList == t322.toList) = false := beq_eq_false_iff_ne.mpr c21
       have c21b1 : (t321.toList != t322.toList) = true := bne_iff_ne.mpr c21
       subst hrt_; exact absurd H (by simp)
     ·rw [if_neg c18] at H
      have c18b0 : (t319 == t320) = false := beq_eq_false_iff_ne.mpr c18
      have c18b1 : (t319 != t320) = true := bne_iff_ne.mpr c18
      subst hrt_; exact absurd H (by simp)
    ·rw [if_neg c15] at H
     have c15b0 : (t317 == t318) = false := by simpa using c15
     (try (have c15b1 : decide (t317 = t318) = false := by simpa using c15))
     (try (have c15b2 : (t317 == t318) = false := by simpa using c15))
     (try (have c15b3 : ¬ (t317 = t318) := by simpa using c15))
     clear c15
     subst hrt_; exact absurd H (by simp)
   ·replace c12 := Bool.eq_false_iff.mpr c12
    subst c12
    have H1 : (some false) = some r := by rw [if_neg (show ¬ (false = true) by decide)] at H; exact H
    clear H
    have H := H1
    clear H1
    subst hrt_; exact absurd H (by simp)
  ·rw [if_neg c8] at H
   have c8b0 : (t308 == t309) = false := by simpa using c8
   (try (have c8b1 : decide (t308 = t309) = false := by simpa using c8))
   (try (have c8b2 : (t308 == t309) = false := by simpa using c8))
   (try (have c8b3 : ¬ (t308 = t309) := by simpa using c8))
   clear c8
   subst hrt_; exact absurd H (by simp)

end Go.Proofs.YtnlakdpfkgjdaaaDoor.G
