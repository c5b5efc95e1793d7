import Derived.Test.YtnlakdpfkgjdaaaDoorG0
import Derived.Test.YtnlakdpfkgjdaaaDoorG2
import Derived.Test.YtnlakdpfkgjdaaaDoorG7
import Derived.Test.YtnlakdpfkgjdaaaDoorGRead
/- What functions of the translation come to, and their calls' proofs; by a program of mine over the kit's print, with contracts given by hand beside. Conditions: where a plain function tells none, nothing is said. -/
namespace Go.Proofs.YtnlakdpfkgjdaaaDoor.G
open Go.RowKit Go.Proofs.YtnlakdpfkgjdaaaDoorW.PrintWords Go.Proofs.YtnlakdpfkgjdaaaDoorW.PrintLast Go.Proofs.YtnlakdpfkgjdaaaDoorW.PrintMore
attribute [local go_sem] max2_int min2_int max_two min_two max_three min_three max_four min_four   -- for this text's walks alone
set_option linter.unusedVariables false
set_option linter.unusedSimpArgs false

theorem eqA31 (d : Nat) (w : World) (x0 y0 : Int) (x1 y1 : Int) :
    (Op.equalIn (d + 2) 31 (.agg #[.int .i64 x0, .int .i64 x1]) (.agg #[.int .i64 y0, .int .i64 y1])).run Tryd.prog w = .ok (x0 == y0 && (x1 == y1)) w := by
  refine eqA_of Tryd.underlying31 (by kernel_rfl) ?_
  refine eqf_cons (by rfl) (by go_simp; rfl) (by go_simp; rfl) (by go_simp) ?_
  exact eqf_last (by rfl) (by go_simp; rfl) (by go_simp; rfl) (by go_simp)
end Go.Proofs.YtnlakdpfkgjdaaaDoor.G

/- What functions of the translation come to, and their calls' proofs; by a program of mine over the kit's print, with contracts given by hand beside. Conditions: where a plain function tells none, nothing is said. -/
namespace Go.Proofs.YtnlakdpfkgjdaaaDoor.G
open Go.RowKit Go.Proofs.YtnlakdpfkgjdaaaDoorW.PrintWords Go.Proofs.YtnlakdpfkgjdaaaDoorW.PrintLast Go.Proofs.YtnlakdpfkgjdaaaDoorW.PrintMore
attribute [local go_sem] max2_int min2_int max_two min_two max_three min_three max_four min_four   -- for this text's walks alone
set_option linter.unusedVariables false
set_option linter.unusedSimpArgs false

attribute [local go_sem high] eqA31
/-! ### caravanref1_SameSpans: function 12 -/
def caravanref1_SameSpans.l0 : Nat → List (S31) → List (S31) → Int → Option (Bool)
 | 0, _, _, _ => none
 | k + 1, x0, x1, x5 => if x5 < (x0.length : Int) then (if 0 ≤ x5 then (if x5 < (x1.length : Int) then (if (!(((rd_T31 x0 x5).f0) == ((rd_T31 x1 x5).f0)) || (!(((rd_T31 x0 x5).f1) == ((rd_T31 x1 x5).f1)))) = true then (some false) else (caravanref1_SameSpans.l0 k x0 x1 (wrap64 (x5 + 1)))) else (none)) else (none)) else (some true)
def caravanref1_SameSpans.f (k : Nat) (l0 : List (S31)) (l1 : List (S31)) : Option (Bool) := if (l0.length : Int) = (l1.length : Int) then (caravanref1_SameSpans.l0 k l0 l1 0) else (some false)
theorem caravanref1_SameSpans.mono_l : ∀ k, (∀ y0 y1 y2, LeO (caravanref1_SameSpans.l0 k y0 y1 y2) (caravanref1_SameSpans.l0 (k + 1) y0 y1 y2))
 | 0 => fun _ _ _ r h => by simp [caravanref1_SameSpans.l0] at h
 | k + 1 => by
  have ih0 := caravanref1_SameSpans.mono_l k
  ·intro y0 y1 y2
   unfold caravanref1_SameSpans.l0
   repeat' first
   | (with_reducible exact ih0 _ _ _)
   | (with_reducible exact LeO.refl _)
   | (with_reducible exact LeO.none _)
   | (with_reducible refine LeO.ite ?_ ?_)
   | (with_reducible refine LeO.bind ?_ (fun _ => ?_))
   | exact ih0 _ _ _
   | exact LeO.none _
   | refine LeO.ite ?_ ?_
   | refine LeO.bind ?_ (fun _ => ?_)
theorem caravanref1_SameSpans.mono : ∀ a0 a1 k, LeO (caravanref1_SameSpans.f k a0 a1) (caravanref1_SameSpans.f (k + 1) a0 a1) := by
 intro a0 a1 k
 have ih0 := caravanref1_SameSpans.mono_l k
 unfold caravanref1_SameSpans.f
 repeat' first
  | (with_reducible exact ih0 _ _ _)
  | (with_reducible exact LeO.refl _)
  | (with_reducible exact LeO.none _)
  | (with_reducible refine LeO.ite ?_ ?_)
  | (with_reducible refine LeO.bind ?_ (fun _ => ?_))
  | exact ih0 _ _ _
  | exact LeO.none _
  | refine LeO.ite ?_ ?_
  | refine LeO.bind ?_ (fun _ => ?_)
set_option maxHeartbeats 8000000 in
set_option maxRecDepth 100000 in
theorem caravanref1_SameSpans.calls (k : Nat) (A0 : Option Addr) (c0 : Nat) (l0 : List (S31)) (A1 : Option Addr) (c1 : Nat) (l1 : List (S31)) (r : Bool) (w : World) (hr0 : Kd.C k31 w A0 l0.length l0) (hc0 : l0.length ≤ c0) (hr1 : Kd.C k31 w A1 l1.length l1) (hc1 : l1.length ≤ c1) (h : caravanref1_SameSpans.f k l0 l1 = some r) :
 Calls Tryd.prog 12 #[.slice A0 l0.length c0, .slice A1 l1.length c1] w fun e w' => e = .returned (.bool r) ∧ Drawn0 w w' := by
 have hu31 := Tryd.underlying31
 have HR0 := Aside0.mk hr0
 have HC0 := Aside0.mk hc0
 clear hr0 hc0
 have HR1 := Aside0.mk hr1
 have HC1 := Aside0.mk hc1
 clear hr1 hc1
 have H : (if (l0.length : Int) = (l1.length : Int) then (caravanref1_SameSpans.l0 k l0 l1 0) else (some false)) = some r := h
 clear h
 by_cases c3 : (l0.length : Int) = (l1.length : Int)
 ·rw [if_pos c3] at H
  have c3b0 : ((l0.length : Int) == (l1.length : Int)) = true := beq_iff_eq.mpr c3
  have c3b1 : ((l0.length : Int) != (l1.length : Int)) = false := bne_eq_false_iff_eq.mpr c3
  have c3b2 : (l0.length == l1.length) = true := by first | simpa using c3 | (simp at c3 ⊢; omega)
  clear c3
  have H' := Aside0.mk H
  clear H
  go_enter Tryd.func12, Tryd.ntmps12
  go_wp2
  repeat (go_quiet (fail); try go_wp2)
  go_loopg [5] k (fun kq v5 w' => ∃ (x5_1 : Int), v5 = .int .i64 x5_1 ∧ Aside0 (caravanref1_SameSpans.l0 kq l0 l1 x5_1 = some r) ∧ Aside0 (kq ≤ k) ∧ Drawn0 w w')
  case atStart => exact ⟨(0), (by first | rfl | (simp; done) | (simp [*]; done)), H', ⟨Nat.le_refl _⟩, (by repeat (first | exact Drawn0.refl _ | apply Drawn0.step))⟩
  case round =>
   clear H'
   try clear c1
   try clear p2
   try clear c3
   try clear c3b0
   try clear c3b1
   try clear c3b2
   obtain ⟨x5_1, rfl, HA, HK1, ⟨m1, rfl⟩⟩ := hrel
   cases gk with
   | zero => exact absurd HA.out (by simp [caravanref1_SameSpans.l0])
   | succ k1 =>
    have H := HA.out
    clear HA
    simp only [caravanref1_SameSpans.l0] at H
    by_cases c4 : x5_1 < (l0.length : Int)
    ·rw [if_pos c4] at H
     have c4b0 : decide (x5_1 < (l0.length : Int)) = true := decide_eq_true c4
     clear c4
     by_cases c5 : 0 ≤ x5_1
     ·rw [if_pos c5] at H
      have c5b0 : decide (0 ≤ x5_1) = true := decide_eq_true c5
      clear c5
      by_cases c6 : x5_1 < (l1.length : Int)
      ·rw [if_pos c6] at H
       have c6b0 : decide (x5_1 < (l1.length : Int)) = true := decide_eq_true c6
       clear c6
       by_cases c7 : (!(((rd_T31 l0 x5_1).f0) == ((rd_T31 l1 x5_1).f0)) || (!(((rd_T31 l0 x5_1).f1) == ((rd_T31 l1 x5_1).f1)))) = true
       ·rw [if_pos c7] at H
        have c7b0 : (!(((rd_T31 l0 x5_1).f0) == ((rd_T31 l1 x5_1).f0)) || (!(((rd_T31 l0 x5_1).f1) == ((rd_T31 l1 x5_1).f1)))) = true := c7
        clear c7
        obtain rfl := Option.some.inj H
        have p265 : 0 ≤ (x5_1 : Int) := of_decide_eq_true (by first | (with_reducible assumption) | assumption)
        have q265 : x5_1 < (l0.length : Int) := of_decide_eq_true (by first | (with_reducible assumption) | assumption)
        obtain ⟨ad265, e265, hx265_0, hx265_1⟩ := at_T31 HR0.out x5_1 p265 q265
        cases e265
        replace p265 := eq_true p265
        replace q265 := eq_true q265
        have p266 : 0 ≤ (x5_1 : Int) := of_decide_eq_true (by first | (with_reducible assumption) | assumption)
        have q266 : x5_1 < (l1.length : Int) := of_decide_eq_true (by first | (with_reducible assumption) | assumption)
        obtain ⟨ad266, e266, hx266_0, hx266_1⟩ := at_T31 HR1.out x5_1 p266 q266
        cases e266
        replace p266 := eq_true p266
        replace q266 := eq_true q266
        go_wp2
        repeat (go_quiet (fail); try go_wp2)
        go_ret
        exact ⟨by first | rfl | (simp; done) | (simp [*]; done), (by repeat (first | exact Drawn0.refl _ | apply Drawn0.step))⟩
       ·rw [if_neg c7] at H
        have c7b0 : (!(((rd_T31 l0 x5_1).f0) == ((rd_T31 l1 x5_1).f0)) || (!(((rd_T31 l0 x5_1).f1) == ((rd_T31 l1 x5_1).f1)))) = false := by simpa using c7
        clear c7
        have H' := Aside0.mk H
        clear H
        have p265 : 0 ≤ (x5_1 : Int) := of_decide_eq_true (by first | (with_reducible assumption) | assumption)
        have q265 : x5_1 < (l0.length : Int) := of_decide_eq_true (by first | (with_reducible assumption) | assumption)
        obtain ⟨ad265, e265, hx265_0, hx265_1⟩ := at_T31 HR0.out x5_1 p265 q265
        cases e265
        replace p265 := eq_true p265
        replace q265 := eq_true q265
        have p266 : 0 ≤ (x5_1 : Int) := of_decide_eq_true (by first | (with_reducible assumption) | assumption)
        have q266 : x5_1 < (l1.length : Int) := of_decide_eq_true (by first | (with_reducible assumption) | assumption)
        obtain ⟨ad266, e266, hx266_0, hx266_1⟩ := at_T31 HR1.out x5_1 p266 q266
        cases e266
        replace p266 := eq_true p266
        replace q266 := eq_true q266
        go_wp2
        repeat (go_quiet (fail); try go_wp2)
        go_roundg k1
        case measure => have := HK1.out; omega
        case rel => exact ⟨(wrap64 (x5_1 + 1)), (by first | rfl | (simp; done) | (simp [*]; done)), H', ⟨by have := HK1.out; omega⟩, (by repeat (first | exact Drawn0.refl _ | apply Drawn0.step))⟩
      ·rw [if_neg c6] at H
       exact absurd H (by simp)
     ·rw [if_neg c5] at H
      exact absurd H (by simp)
    ·rw [if_neg c4] at H
     have c4b0 : decide (x5_1 < (l0.length : Int)) = false := decide_eq_false c4
     clear c4
     obtain rfl := Option.some.inj H
     go_wp2
     repeat (go_quiet (fail); try go_wp2)
     go_ret
     exact ⟨by first | rfl | (simp; done) | (simp [*]; done), (by repeat (first | exact Drawn0.refl _ | apply Drawn0.step))⟩
 ·rw [if_neg c3] at H
  have c3b0 : ((l0.length : Int) == (l1.length : Int)) = false := beq_eq_false_iff_ne.mpr c3
  have c3b1 : ((l0.length : Int) != (l1.length : Int)) = true := bne_iff_ne.mpr c3
  have c3b2 : (l0.length == l1.length) = false := by first | simpa using c3 | (simp at c3 ⊢; omega)
  obtain rfl := Option.some.inj H
  go_enter Tryd.func12, Tryd.ntmps12
  go_wp2
  repeat (go_quiet (fail); try go_wp2)
  go_ret
  exact ⟨by first | rfl | (simp; done) | (simp [*]; done), (by repeat (first | exact Drawn0.refl _ | apply Drawn0.step))⟩

/-! ### caravanlaw2_SpansTexts: function 3 -/
def caravanlaw2_SpansTexts.f (k : Nat) (a0 : ByteArray) : Option (Bool) := if (a0.size : Int) > 300 then ((caravanlaw2_awake.f k).bind fun t267 => (some t267)) else ((spans_Read.f a0).bind fun bt268 => ((caravanref1_ReadSpans.f k a0).bind fun bt272 => (if (bt268.2 == bt272.2) = true then ((caravanref1_SameSpans.f k bt268.1 bt272.1).bind fun t276 => (if t276 = true then (if bt268.2 = true then ((caravanlaw2_awake.f k).bind fun t277 => (some t277)) else (if (bt268.1.length : Int) = 0 then ((caravanlaw2_awake.f k).bind fun t278 => (some t278)) else (some false))) else (some false))) else (some false))))
theorem caravanlaw2_SpansTexts.mono : ∀ a0 k, LeO (caravanlaw2_SpansTexts.f k a0) (caravanlaw2_SpansTexts.f (k + 1) a0) := by
 intro a0 k
 unfold caravanlaw2_SpansTexts.f
 repeat' first
  | (with_reducible exact caravanlaw2_awake.mono _)
  | (with_reducible exact caravanref1_ReadSpans.mono _ _)
  | (with_reducible exact caravanref1_SameSpans.mono _ _ _)
  | (with_reducible exact LeO.refl _)
  | (with_reducible exact LeO.none _)
  | (with_reducible refine LeO.ite ?_ ?_)
  | (with_reducible refine LeO.bind ?_ (fun _ => ?_))
  | exact caravanlaw2_awake.mono _
  | exact caravanref1_ReadSpans.mono _ _
  | exact caravanref1_SameSpans.mono _ _ _
  | exact LeO.none _
  | refine LeO.ite ?_ ?_
  | refine LeO.bind ?_ (fun _ => ?_)
set_option maxHeartbeats 8000000 in
set_option maxRecDepth 100000 in
theorem caravanlaw2_SpansTexts.calls (k : Nat) (a0 : ByteArray) (r : Bool) (w : World) (h : caravanlaw2_SpansTexts.f k a0 = some r) (hrt_ : r = true) (hWd_ : Wd w) :
 Calls Tryd.prog 3 #[.string a0] w fun e w' => e = .returned (.bool r) ∧ Below w.heap.size w w' := by
 have HB := Aside0.mk (Below.refl w.heap.size w)
 have H : (if (a0.size : Int) > 300 then ((caravanlaw2_awake.f k).bind fun t267 => (some t267)) else ((spans_Read.f a0).bind fun bt268 => ((caravanref1_ReadSpans.f k a0).bind fun bt272 => (if (bt268.2 == bt272.2) = true then ((caravanref1_SameSpans.f k bt268.1 bt272.1).bind fun t276 => (if t276 = true then (if bt268.2 = true then ((caravanlaw2_awake.f k).bind fun t277 => (some t277)) else (if (bt268.1.length : Int) = 0 then ((caravanlaw2_awake.f k).bind fun t278 => (some t278)) else (some false))) else (some false))) else (some false))))) = some r := h
 clear h
 by_cases c2 : (a0.size : Int) > 300
 ·rw [if_pos c2] at H
  have c2b0 : decide (300 < (a0.size : Int)) = true := decide_eq_true c2
  have c2b1 : decide (300 < a0.size) = true := decide_eq_true (by omega)
  clear c2
  replace H := Option.bind_eq_some_iff.mp H
  obtain ⟨t267, A30, H⟩ := H
  replace H : (some t267) = some r := H
  have A3 := Aside0.mk A30
  clear A30
  obtain rfl := Option.some.inj H
  go_enter Tryd.func3, Tryd.ntmps3
  go_wp2_with (first | ((with_reducible refine gate_callee (f := 9) rfl ?_); refine goesL_ (some 10) rfl rfl Tryd.func9 (by kernel_rfl) rfl #[] rfl qM_ ?_; (with_reducible refine (caravanlaw2_awake.calls k  t267 _ A3.out (Wd.of hWd_ (qdb35_ HB.out))).mono ?_); rintro e w4 ⟨rfl, hb⟩; refine ⟨_, rfl, ?_⟩; have n0_ := Aside0.mk (below_step (qdb35_ HB.out) hb); clear HB; have HB := n0_; clear n0_; (try clear hb); (try clear hb2); (try clear hk); (try clear hi)))
  go_ret
  exact ⟨by first | rfl | (simp [errW_none, errW_some] <;> rfl) | (simp [*, errW_none, errW_some] <;> rfl), (qdb35_ HB.out)⟩
 ·rw [if_neg c2] at H
  have c2b0 : decide (300 < (a0.size : Int)) = false := decide_eq_false c2
  have c2b1 : decide (300 < a0.size) = false := decide_eq_false (by omega)
  clear c2
  replace H := Option.bind_eq_some_iff.mp H
  obtain ⟨⟨t268, t269⟩, A50, H⟩ := H
  replace H : ((caravanref1_ReadSpans.f k a0).bind fun bt272 => (if (t269 == bt272.2) = true then ((caravanref1_SameSpans.f k t268 bt272.1).bind fun t276 => (if t276 = true then (if t269 = true then ((caravanlaw2_awake.f k).bind fun t277 => (some t277)) else (if (t268.length : Int) = 0 then ((caravanlaw2_awake.f k).bind fun t278 => (some t278)) else (some false))) else (some false))) else (some false))) = some r := H
  have A5 := Aside0.mk A50
  clear A50
  replace H := Option.bind_eq_some_iff.mp H
  obtain ⟨⟨t272, t273⟩, A60, H⟩ := H
  replace H : (if (t269 == t273) = true then ((caravanref1_SameSpans.f k t268 t272).bind fun t276 => (if t276 = true then (if t269 = true then ((caravanlaw2_awake.f k).bind fun t277 => (some t277)) else (if (t268.length : Int) = 0 then ((caravanlaw2_awake.f k).bind fun t278 => (some t278)) else (some false))) else (some false))) else (some false)) = some r := H
  have A6 := Aside0.mk A60
  clear A60
  by_cases c7 : (t269 == t273) = true
  ·rw [if_pos c7] at H
   have c7b0 : (t269 == t273) = true := c7
   (try (have c7b1 : decide (t269 = t273) = true := by simpa using c7))
   (try (have c7b2 : (t269 == t273) = true := by simpa using c7))
   clear c7
   replace H := Option.bind_eq_some_iff.mp H
   obtain ⟨t276, A80, H⟩ := H
   replace H : (if t276 = true then (if t269 = true then ((caravanlaw2_awake.f k).bind fun t277 => (some t277)) else (if (t268.length : Int) = 0 then ((caravanlaw2_awake.f k).bind fun t278 => (some t278)) else (some false))) else (some false)) = some r := H
   have A8 := Aside0.mk A80
   clear A80
   by_cases c9 : t276 = true
   ·subst c9
    have H1 : (if t269 = true then ((caravanlaw2_awake.f k).bind fun t277 => (some t277)) else (if (t268.length : Int) = 0 then ((caravanlaw2_awake.f k).bind fun t278 => (some t278)) else (some false))) = some r := by rw [if_pos rfl] at H; exact H
    clear H
    have H := H1
    clear H1
    by_cases c10 : t269 = true
    ·subst c10
     have H1 : ((caravanlaw2_awake.f k).bind fun t277 => (some t277)) = some r := by rw [if_pos rfl] at H; exact H
     clear H
     have H := H1
     clear H1
     replace H := Option.bind_eq_some_iff.mp H
     obtain ⟨t277, A110, H⟩ := H
     replace H : (some t277) = some r := H
     have A11 := Aside0.mk A110
     clear A110
     obtain rfl := Option.some.inj H
     go_enter Tryd.func3, Tryd.ntmps3
     go_wp2_with (first | ((with_reducible refine gate_callee (f := 10) rfl ?_); refine goesL_ (some 13) rfl rfl Tryd.func10 (by kernel_rfl) rfl #[.string a0] rfl qM_ ?_; (with_reducible refine (spans_Read.calls a0 t268 true _ A5.out (Wd.of hWd_ (qdb35_ HB.out))).mono ?_); rintro e w12 ⟨v270, rfl, ho0, hb⟩; refine ⟨_, rfl, ?_⟩; have n0_ := Aside0.mk (Kd.R_lower ho0 (below_size (qdb35_ HB.out))); have n1_ := Aside0.mk (below_step (qdb35_ HB.out) hb); clear HB; have HO271 := n0_; have HB := n1_; clear n0_ n1_; (try clear hb); (try clear hb2); (try clear hk); (try clear hi); (try clear ho0)) | ((with_reducible refine gate_callee (f := 11) rfl ?_); refine goesL_ (some 18) rfl rfl Tryd.func11 (by kernel_rfl) rfl #[.string a0] rfl qM_ ?_; (with_reducible refine (caravanref1_ReadSpans.calls k a0 t272 t273 _ A6.out).mono ?_); rintro e w13 ⟨v274, rfl, ho0, hb⟩; refine ⟨_, rfl, ?_⟩; have n0_ := Aside0.mk (Kd.R_elder' (q8524_ HO271.out) (Kd.R_base ho0) hb); have n1_ := Aside0.mk (Kd.R_lower (Kd.R_new' ho0 (Kd.R_lt (q8524_ HO271.out))) (below_size (qdb35_ HB.out))); have n2_ := Aside0.mk (below_step (qdb35_ HB.out) hb); clear HO271; clear HB; have HO271 := n0_; have HO275 := n1_; have HB := n2_; clear n0_ n1_ n2_; (try clear hb); (try clear hb2); (try clear hk); (try clear hi); (try clear ho0); obtain ⟨Ao14, co14, eo14⟩ := Kd.R_slice HO271.out; subst eo14; obtain ⟨Ao15, co15, eo15⟩ := Kd.R_slice HO275.out; subst eo15) | (go_at_call 12; (with_reducible refine (caravanref1_SameSpans.calls k _ _ t268 _ _ t272 true _ ?side1 ?side2 ?side3 ?side4 A8.out).mono ?_); (case side1 => exact qC_ ((Kd.R_reads' HO271.out).2.2)); (case side2 => exact (Kd.R_reads' HO271.out).2.1); (case side3 => exact qC_ ((Kd.R_reads' HO275.out).2.2)); (case side4 => exact (Kd.R_reads' HO275.out).2.1); rintro e w' ⟨rfl, ⟨nd, rfl⟩⟩) | (go_at_call 9; (with_reducible refine (caravanlaw2_awake.calls k  t277 _ A11.out (Wd.of hWd_ (qdb35_ HB.out))).mono ?_); rintro e w16 ⟨rfl, hb⟩; have n0_ := Aside0.mk (Kd.R_below (q8524_ HO271.out) hb); have n1_ := Aside0.mk (Kd.R_below (q8524_ HO275.out) hb); have n2_ := Aside0.mk (below_step (qdb35_ HB.out) hb); clear HO271; clear HO275; clear HB; have HO271 := n0_; have HO275 := n1_; have HB := n2_; clear n0_ n1_ n2_; (try clear hb); (try clear hb2); (try clear hk); (try clear hi)))
     go_ret
     exact ⟨by first | rfl | (simp [errW_none, errW_some] <;> rfl) | (simp [*, errW_none, errW_some] <;> rfl), (qdb35_ HB.out)⟩
    ·replace c10 := Bool.eq_false_iff.mpr c10
     subst c10
     have H1 : (if (t268.length : Int) = 0 then ((caravanlaw2_awake.f k).bind fun t278 => (some t278)) else (some false)) = some r := by rw [if_neg (show ¬ (false = true) by decide)] at H; exact H
     clear H
     have H := H1
     clear H1
     by_cases c17 : (t268.length : Int) = 0
     ·rw [if_pos c17] at H
      have c17b0 : ((t268.length : Int) == 0) = true := beq_iff_eq.mpr c17
      have c17b1 : ((t268.length : Int) != 0) = false := bne_eq_false_iff_eq.mpr c17
      clear c17
      replace H := Option.bind_eq_some_iff.mp H
      obtain ⟨t278, A180, H⟩ := H
      replace H : (some t278) = some r := H
      have A18 := Aside0.mk A180
      clear A180
      obtain rfl := Option.some.inj H
      go_enter Tryd.func3, Tryd.ntmps3
      go_wp2_with (first | ((with_reducible refine gate_callee (f := 10) rfl ?_); refine goesL_ (some 13) rfl rfl Tryd.func10 (by kernel_rfl) rfl #[.string a0] rfl qM_ ?_; (with_reducible refine (spans_Read.calls a0 t268 false _ A5.out (Wd.of hWd_ (qdb35_ HB.out))).mono ?_); rintro e w19 ⟨v270, rfl, ho0, hb⟩; refine ⟨_, rfl, ?_⟩; have n0_ := Aside0.mk (Kd.R_lower ho0 (below_size (qdb35_ HB.out))); have n1_ := Aside0.mk (below_step (qdb35_ HB.out) hb); clear HB; have HO271 := n0_; have HB := n1_; clear n0_ n1_; (try clear hb); (try clear hb2); (try clear hk); (try clear hi); (try clear ho0)) | ((with_reducible refine gate_callee (f := 11) rfl ?_); refine goesL_ (some 18) rfl rfl Tryd.func11 (by kernel_rfl) rfl #[.string a0] rfl qM_ ?_; (with_reducible refine (caravanref1_ReadSpans.calls k a0 t272 t273 _ A6.out).mono ?_); rintro e w20 ⟨v274, rfl, ho0, hb⟩; refine ⟨_, rfl, ?_⟩; have n0_ := Aside0.mk (Kd.R_elder' (q8524_ HO271.out) (Kd.R_base ho0) hb); have n1_ := Aside0.mk (Kd.R_lower (Kd.R_new' ho0 (Kd.R_lt (q8524_ HO271.out))) (below_size (qdb35_ HB.out))); have n2_ := Aside0.mk (below_step (qdb35_ HB.out) hb); clear HO271; clear HB; have HO271 := n0_; have HO275 := n1_; have HB := n2_; clear n0_ n1_ n2_; (try clear hb); (try clear hb2); (try clear hk); (try clear hi); (try clear ho0); obtain ⟨Ao21, co21, eo21⟩ := Kd.R_slice HO271.out; subst eo21; obtain ⟨Ao22, co22, eo22⟩ := Kd.R_slice HO275.out; subst eo22) | (go_at_call 12; (with_reducible refine (caravanref1_SameSpans.calls k _ _ t268 _ _ t272 true _ ?side1 ?side2 ?side3 ?side4 A8.out).mono ?_); (case side1 => exact qC_ ((Kd.R_reads' HO271.out).2.2)); (case side2 => exact (Kd.R_reads' HO271.out).2.1); (case side3 => exact qC_ ((Kd.R_reads' HO275.out).2.2)); (case side4 => exact (Kd.R_reads' HO275.out).2.1); rintro e w' ⟨rfl, ⟨nd, rfl⟩⟩) | (go_at_call 9; (with_reducible refine (caravanlaw2_awake.calls k  t278 _ A18.out (Wd.of hWd_ (qdb35_ HB.out))).mono ?_); rintro e w23 ⟨rfl, hb⟩; have n0_ := Aside0.mk (Kd.R_below (q8524_ HO271.out) hb); have n1_ := Aside0.mk (Kd.R_below (q8524_ HO275.out) hb); have n2_ := Aside0.mk (below_step (qdb35_ HB.out) hb); clear HO271; clear HO275; clear HB; have HO271 := n0_; have HO275 := n1_; have HB := n2_; clear n0_ n1_ n2_; (try clear hb); (try clear hb2); (try clear hk); (try clear hi)))
      go_ret
      exact ⟨by first | rfl | (simp [errW_none, errW_some] <;> rfl) | (simp [*, errW_none, errW_some] <;> rfl), (qdb35_ HB.out)⟩
     ·rw [if_neg c17] at H
      have c17b0 : ((t268.length : Int) == 0) = false := beq_eq_false_iff_ne.mpr c17
      have c17b1 : ((t268.length : Int) != 0) = true := bne_iff_ne.mpr c17
      have c17b2 : ¬ (t268 = []) := fun h_ => c17 (by rw [h_]; rfl)
      subst hrt_; exact absurd H (by simp)
   ·replace c9 := Bool.eq_false_iff.mpr c9
    subst c9
    have H1 : (some false) = some r := by rw [if_neg (show ¬ (false = true) by decide)] at H; exact H
    clear H
    have H := H1
    clear H1
    subst hrt_; exact absurd H (by simp)
  ·rw [if_neg c7] at H
   have c7b0 : (t269 == t273) = false := by simpa using c7
   (try (have c7b1 : decide (t269 = t273) = false := by simpa using c7))
   (try (have c7b2 : (t269 == t273) = false := by simpa using c7))
   (try (have c7b3 : ¬ (t269 = t273) := by simpa using c7))
   clear c7
   subst hrt_; exact absurd H (by simp)

/-- THE ONE PURE STATEMENT of caravanlaw2_SpansTexts: yours. -/
def caravanlaw2_SpansTexts.Pure : Prop := ∀ (a0 : ByteArray), a0.size ≤ 140737488351232 → ∃ k, caravanlaw2_SpansTexts.f k a0 = some true
theorem caravanlaw2_SpansTexts.walk (P : caravanlaw2_SpansTexts.Pure) (a0 : ByteArray) (w : World) (hWd_ : Wd w) (w0 : a0.size ≤ 140737488351232) :
 Calls Tryd.prog 3 #[.string a0] w fun e w' => e = .returned (.bool true) ∧ Below w.heap.size w w' := by
 obtain ⟨k, h⟩ := P a0 w0
 refine (caravanlaw2_SpansTexts.calls k a0 true w h rfl hWd_).mono ?_
 rintro e w' ⟨rfl, hd⟩
 exact ⟨rfl, hd⟩

end Go.Proofs.YtnlakdpfkgjdaaaDoor.G
