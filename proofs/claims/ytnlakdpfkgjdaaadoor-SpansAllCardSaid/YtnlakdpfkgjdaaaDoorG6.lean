/- What functions of the translation come to, and their calls' proofs; by a program of mine over the kit's print, with contracts given by hand beside. Conditions: where a plain function tells none, nothing is said. -/
import Derived.Test.YtnlakdpfkgjdaaaDoorG0
import Derived.Test.YtnlakdpfkgjdaaaDoorG2
import Derived.Test.YtnlakdpfkgjdaaaDoorG5
namespace Go.Proofs.YtnlakdpfkgjdaaaDoor.G
open Go.RowKit Go.Proofs.YtnlakdpfkgjdaaaDoorW.PrintWords Go.Proofs.YtnlakdpfkgjdaaaDoorW.PrintLast Go.Proofs.YtnlakdpfkgjdaaaDoorW.PrintMore
attribute [local go_sem] max2_int min2_int max_two min_two max_three min_three max_four min_four   -- for this text's walks alone
set_option linter.unusedVariables false
set_option linter.unusedSimpArgs false

/-! ### caravanref1_Norm: function 17 -/
def caravanref1_Norm.f (k : Nat) (l0 : List (S31)) : Option ((List (S31))) := (caravanref1_Mix.f k 0 l0 ([] : List (S31))).bind fun t245 => (some t245)
theorem caravanref1_Norm.mono : ∀ a0 k, LeO (caravanref1_Norm.f k a0) (caravanref1_Norm.f (k + 1) a0) := by
 intro a0 k
 unfold caravanref1_Norm.f
 repeat' first
  | (with_reducible exact caravanref1_Mix.mono _ _ _ _)
  | (with_reducible exact LeO.refl _)
  | (with_reducible exact LeO.none _)
  | (with_reducible refine LeO.ite ?_ ?_)
  | (with_reducible refine LeO.bind ?_ (fun _ => ?_))
  | exact caravanref1_Mix.mono _ _ _ _
  | exact LeO.none _
  | refine LeO.ite ?_ ?_
  | refine LeO.bind ?_ (fun _ => ?_)
set_option maxHeartbeats 8000000 in
set_option maxRecDepth 100000 in
theorem caravanref1_Norm.calls (k : Nat) (A0 : Option Addr) (c0 : Nat) (l0 : List (S31)) (r : List (S31)) (w : World) (hr0 : Kd.C k31 w A0 l0.length l0) (hc0 : l0.length ≤ c0) (h : caravanref1_Norm.f k l0 = some r) :
 Calls Tryd.prog 17 #[.slice A0 l0.length c0] w fun e w' => ∃ v0_ : Value, e = .returned (v0_) ∧ Kd.R k31 31 w' w.heap.size (fun _ => True) v0_ r ∧ Below w.heap.size w w' := by
 have HR0 := Aside0.mk hr0
 have HC0 := Aside0.mk hc0
 clear hr0 hc0
 have HB := Aside0.mk (Below.refl w.heap.size w)
 have H : ((caravanref1_Mix.f k 0 l0 ([] : List (S31))).bind fun t245 => (some t245)) = some r := h
 clear h
 replace H := Option.bind_eq_some_iff.mp H
 obtain ⟨t245, A20, H⟩ := H
 replace H : (some t245) = some r := H
 have A2 := Aside0.mk A20
 clear A20
 obtain rfl := Option.some.inj H
 go_enter Tryd.func17, Tryd.ntmps17
 go_wp2_with (first | ((with_reducible refine gate_callee (f := 25) rfl ?_); refine goesL_ (some 4) rfl rfl Tryd.func25 (by kernel_rfl) rfl #[.int .i64 0, .slice A0 l0.length c0, .slice none 0 0] rfl qM_ ?_; (refine (caravanref1_Mix.calls k 0 _ _ l0 _ _ ([] : List (S31)) t245 _ ?side1 ?side2 ?side3 ?side4 A2.out).mono ?_); (case side1 => exact qC_ (HR0.out)); (case side2 => exact HC0.out); (case side3 => exact Kd.C_nil _ _); (case side4 => exact Nat.le_refl _); rintro e w3 ⟨v246, rfl, ho0, hb⟩; refine ⟨_, rfl, ?_⟩; have n0_ := Aside0.mk (Kd.R_lower ho0 (below_size (qdb35_ HB.out))); have n1_ := Aside0.mk (below_step (qdb35_ HB.out) hb); clear HB; have HO247 := n0_; have HB := n1_; clear n0_ n1_; (try clear hb); (try clear hb2); (try clear hk); (try clear hi); (try clear ho0)))
 go_ret
 exact ⟨_, by first | rfl | (simp [errW_none, errW_some] <;> rfl) | (simp [*, errW_none, errW_some] <;> rfl), by (with_reducible repeat (first | apply Kd.R_alloc | apply Kd.R_drewN | apply Kd.R_drew)); exact HO247.out, (qdb35_ HB.out)⟩

/-! ### caravanref1_SpanText: function 23 -/
mutual
def caravanref1_SpanText.l0 : Nat → ByteArray → List (S31) → Int → Option (ByteArray)
 | 0, _, _, _ => none
 | k + 1, x3, x4, x5 => if x5 < (x4.length : Int) then (if x5 > 0 then (if x3.size + 1 ≤ 9223372036854775807 then (caravanref1_SpanText.j1 k (x3 ++ (⟨#[44]⟩ : ByteArray)) x4 x5) else (none)) else (caravanref1_SpanText.j1 k x3 x4 x5)) else (some x3)
def caravanref1_SpanText.j1 : Nat → ByteArray → List (S31) → Int → Option (ByteArray)
 | 0, _, _, _ => none
 | k + 1, x3, x4, x5 => if 0 ≤ x5 then (if x5 < (x4.length : Int) then ((caravanref1_Digits.f k ((rd_T31 x4 x5).f0)).bind fun t252 => (if x3.size + t252.size ≤ 9223372036854775807 then (if ((rd_T31 x4 x5).f1) > ((rd_T31 x4 x5).f0) then (if (x3 ++ t252).size + 1 ≤ 9223372036854775807 then ((caravanref1_Digits.f k ((rd_T31 x4 x5).f1)).bind fun t256 => (if ((x3 ++ t252) ++ (⟨#[45]⟩ : ByteArray)).size + t256.size ≤ 9223372036854775807 then (caravanref1_SpanText.l0 k (((x3 ++ t252) ++ (⟨#[45]⟩ : ByteArray)) ++ t256) x4 (wrap64 (x5 + 1))) else (none))) else (none)) else (caravanref1_SpanText.l0 k (x3 ++ t252) x4 (wrap64 (x5 + 1)))) else (none))) else (none)) else (none)
end
def caravanref1_SpanText.f (k : Nat) (l0 : List (S31)) : Option (ByteArray) := (caravanref1_Norm.f k l0).bind fun t248 => (caravanref1_SpanText.l0 k (⟨#[]⟩ : ByteArray) t248 0)
theorem caravanref1_SpanText.mono_l : ∀ k, (∀ y0 y1 y2, LeO (caravanref1_SpanText.l0 k y0 y1 y2) (caravanref1_SpanText.l0 (k + 1) y0 y1 y2)) ∧ (∀ y0 y1 y2, LeO (caravanref1_SpanText.j1 k y0 y1 y2) (caravanref1_SpanText.j1 (k + 1) y0 y1 y2))
 | 0 => ⟨fun _ _ _ r h => by simp [caravanref1_SpanText.l0] at h, fun _ _ _ r h => by simp [caravanref1_SpanText.j1] at h⟩
 | k + 1 => by
  obtain ⟨ih0, ih1⟩ := caravanref1_SpanText.mono_l k
  refine ⟨?_, ?_⟩
  ·intro y0 y1 y2
   unfold caravanref1_SpanText.l0
   repeat' first
   | (with_reducible exact ih0 _ _ _)
   | (with_reducible exact ih1 _ _ _)
   | (with_reducible exact caravanref1_Digits.mono _ _)
   | (with_reducible exact caravanref1_Norm.mono _ _)
   | (with_reducible exact LeO.refl _)
   | (with_reducible exact LeO.none _)
   | (with_reducible refine LeO.ite ?_ ?_)
   | (with_reducible refine LeO.bind ?_ (fun _ => ?_))
   | exact ih0 _ _ _
   | exact ih1 _ _ _
   | exact caravanref1_Digits.mono _ _
   | exact caravanref1_Norm.mono _ _
   | exact LeO.none _
   | refine LeO.ite ?_ ?_
   | refine LeO.bind ?_ (fun _ => ?_)
  ·intro y0 y1 y2
   unfold caravanref1_SpanText.j1
   repeat' first
   | (with_reducible exact ih0 _ _ _)
   | (with_reducible exact ih1 _ _ _)
   | (with_reducible exact caravanref1_Digits.mono _ _)
   | (with_reducible exact caravanref1_Norm.mono _ _)
   | (with_reducible exact LeO.refl _)
   | (with_reducible exact LeO.none _)
   | (with_reducible refine LeO.ite ?_ ?_)
   | (with_reducible refine LeO.bind ?_ (fun _ => ?_))
   | exact ih0 _ _ _
   | exact ih1 _ _ _
   | exact caravanref1_Digits.mono _ _
   | exact caravanref1_Norm.mono _ _
   | exact LeO.none _
   | refine LeO.ite ?_ ?_
   | refine LeO.bind ?_ (fun _ => ?_)
theorem caravanref1_SpanText.mono : ∀ a0 k, LeO (caravanref1_SpanText.f k a0) (caravanref1_SpanText.f (k + 1) a0) := by
 intro a0 k
 obtain ⟨ih0, ih1⟩ := caravanref1_SpanText.mono_l k
 unfold caravanref1_SpanText.f
 repeat' first
  | (with_reducible exact ih0 _ _ _)
  | (with_reducible exact ih1 _ _ _)
  | (with_reducible exact caravanref1_Digits.mono _ _)
  | (with_reducible exact caravanref1_Norm.mono _ _)
  | (with_reducible exact LeO.refl _)
  | (with_reducible exact LeO.none _)
  | (with_reducible refine LeO.ite ?_ ?_)
  | (with_reducible refine LeO.bind ?_ (fun _ => ?_))
  | exact ih0 _ _ _
  | exact ih1 _ _ _
  | exact caravanref1_Digits.mono _ _
  | exact caravanref1_Norm.mono _ _
  | exact LeO.none _
  | refine LeO.ite ?_ ?_
  | refine LeO.bind ?_ (fun _ => ?_)
set_option maxHeartbeats 8000000 in
set_option maxRecDepth 100000 in
theorem caravanref1_SpanText.calls (k : Nat) (A0 : Option Addr) (c0 : Nat) (l0 : List (S31)) (r : ByteArray) (w : World) (hr0 : Kd.C k31 w A0 l0.length l0) (hc0 : l0.length ≤ c0) (h : caravanref1_SpanText.f k l0 = some r) :
 Calls Tryd.prog 23 #[.slice A0 l0.length c0] w fun e w' => e = .returned (.string r) ∧ Below w.heap.size w w' := by
 have HR0 := Aside0.mk hr0
 have HC0 := Aside0.mk hc0
 clear hr0 hc0
 have HB := Aside0.mk (Below.refl w.heap.size w)
 have H : ((caravanref1_Norm.f k l0).bind fun t248 => (caravanref1_SpanText.l0 k (⟨#[]⟩ : ByteArray) t248 0)) = some r := h
 clear h
 replace H := Option.bind_eq_some_iff.mp H
 obtain ⟨t248, A20, H⟩ := H
 replace H : (caravanref1_SpanText.l0 k (⟨#[]⟩ : ByteArray) t248 0) = some r := H
 have A2 := Aside0.mk A20
 clear A20
 have H' := Aside0.mk H
 clear H
 go_enter Tryd.func23, Tryd.ntmps23
 go_wp2_with (first | (go_at_call 17; (with_reducible refine (caravanref1_Norm.calls k _ _ l0 t248 _ ?side1 ?side2 A2.out).mono ?_); (case side1 => exact qC_ (HR0.out)); (case side2 => exact HC0.out); rintro e w3 ⟨v249, rfl, ho0, hb⟩; have n0_ := Aside0.mk (Kd.R_lower ho0 (below_size (qdb35_ HB.out))); have n1_ := Aside0.mk (below_step (qdb35_ HB.out) hb); clear HB; have HO250 := n0_; have HB := n1_; clear n0_ n1_; (try clear hb); (try clear hb2); (try clear hk); (try clear hi); (try clear ho0)))
 repeat (go_quiet (first | (go_at_call 17; (with_reducible refine (caravanref1_Norm.calls k _ _ l0 t248 _ ?side1 ?side2 A2.out).mono ?_); (case side1 => exact qC_ (HR0.out)); (case side2 => exact HC0.out); rintro e w3 ⟨v249, rfl, ho0, hb⟩; have n0_ := Aside0.mk (Kd.R_lower ho0 (below_size (qdb35_ HB.out))); have n1_ := Aside0.mk (below_step (qdb35_ HB.out) hb); clear HB; have HO250 := n0_; have HB := n1_; clear n0_ n1_; (try clear hb); (try clear hb2); (try clear hk); (try clear hi); (try clear ho0))); try go_wp2_with (first | (go_at_call 17; (with_reducible refine (caravanref1_Norm.calls k _ _ l0 t248 _ ?side1 ?side2 A2.out).mono ?_); (case side1 => exact qC_ (HR0.out)); (case side2 => exact HC0.out); rintro e w3 ⟨v249, rfl, ho0, hb⟩; have n0_ := Aside0.mk (Kd.R_lower ho0 (below_size (qdb35_ HB.out))); have n1_ := Aside0.mk (below_step (qdb35_ HB.out) hb); clear HB; have HO250 := n0_; have HB := n1_; clear n0_ n1_; (try clear hb); (try clear hb2); (try clear hk); (try clear hi); (try clear ho0))))
 go_loopg [3, 5] k (fun kq v3 v5 w' => ∃ (x3_1 : ByteArray) (x5_1 : Int), v3 = .string x3_1 ∧ v5 = .int .i64 x5_1 ∧ Aside0 (caravanref1_SpanText.l0 kq x3_1 t248 x5_1 = some r) ∧ Aside0 (kq ≤ k) ∧ Aside0 (Kd.R k31 31 w' w.heap.size (fun _ => True) v249 t248) ∧ Aside0 (Below w.heap.size w w'))
 case atStart => exact ⟨((⟨#[]⟩ : ByteArray)), (0), (by first | rfl | (simp; done) | (simp [*]; done)), (by first | rfl | (simp; done) | (simp [*]; done)), H', ⟨Nat.le_refl _⟩, ⟨by (with_reducible repeat (first | apply Kd.R_alloc | apply Kd.R_drewN | apply Kd.R_drew)); exact HO250.out⟩, ⟨(qdb35_ HB.out)⟩⟩
 case round =>
  clear H'
  try clear c2
  try clear p2
  obtain ⟨x3_1, x5_1, rfl, rfl, HA, HK1, HO_4, HB⟩ := hrel
  cases gk with
  | zero => exact absurd HA.out (by simp [caravanref1_SpanText.l0])
  | succ k1 =>
   have H := HA.out
   clear HA
   simp only [caravanref1_SpanText.l0] at H
   by_cases c4 : x5_1 < (t248.length : Int)
   ·rw [if_pos c4] at H
    have c4b0 : decide (x5_1 < (t248.length : Int)) = true := decide_eq_true c4
    clear c4
    have HC5 := Aside0.mk H
    clear H
    obtain ⟨Ao6, co6, eo6⟩ := Kd.R_slice HO_4.out
    subst eo6
    go_upto_if 15 with (fail)
    repeat (go_quiet (fail); go_upto_if 15 with (fail))
    go_cut [3] (fun v3 wc => ∃ (kq : Nat) (x3_4 : ByteArray), v3 = .string x3_4 ∧ Aside0 (caravanref1_SpanText.j1 kq x3_4 t248 x5_1 = some r) ∧ Aside0 (kq ≤ k1) ∧ Aside0 (Kd.R k31 31 wc w.heap.size (fun _ => True) (.slice Ao6 t248.length co6) t248) ∧ Aside0 (Below w.heap.size w wc))
    case first =>
     have H := HC5.out
     clear HC5
     by_cases c7 : x5_1 > 0
     ·rw [if_pos c7] at H
      have c7b0 : decide (0 < x5_1) = true := decide_eq_true c7
      clear c7
      (first | rw [c7b0] | (simp only [i64_w, i32_w]; rw [c7b0]) | skip)
      by_cases c8 : x3_1.size + 1 ≤ 9223372036854775807
      ·rw [if_pos c8] at H
       have c8b0 := eq_true c8
       have c8b1 : decide (x3_1.size + 1 ≤ 9223372036854775807) = true := decide_eq_true c8
       try have c8b2 : (9223372036854775807 < x3_1.size + 1) = False := eq_false (Nat.not_lt.2 c8)
       have H' := Aside0.mk H
       clear H
       go_wp2
       repeat (go_quiet (fail); try go_wp2)
       go_meet
       case rel => exact ⟨_, (x3_1 ++ (⟨#[44]⟩ : ByteArray)), (by first | rfl | (simp; done) | (simp [*]; done)), H', ⟨by have := HK1.out; first | omega | exact Nat.le_refl _⟩, ⟨by (with_reducible repeat (first | apply Kd.R_alloc | apply Kd.R_drewN | apply Kd.R_drew)); exact HO_4.out⟩, ⟨(qdb35_ HB.out)⟩⟩
      ·rw [if_neg c8] at H
       exact absurd H (by simp)
     ·rw [if_neg c7] at H
      have c7b0 : decide (0 < x5_1) = false := decide_eq_false c7
      clear c7
      (first | rw [c7b0] | (simp only [i64_w, i32_w]; rw [c7b0]) | skip)
      have H' := Aside0.mk H
      clear H
      go_wp2
      repeat (go_quiet (fail); try go_wp2)
      go_meet
      case rel => exact ⟨_, (x3_1), (by first | rfl | (simp; done) | (simp [*]; done)), H', ⟨by have := HK1.out; first | omega | exact Nat.le_refl _⟩, ⟨by (with_reducible repeat (first | apply Kd.R_alloc | apply Kd.R_drewN | apply Kd.R_drew)); exact HO_4.out⟩, ⟨(qdb35_ HB.out)⟩⟩
    case rest =>
     clear HC5
     try clear c2
     try clear p2
     try clear c4
     try clear c4b0
     try clear c7
     try clear c7b0
     try clear c8
     try clear c8b0
     try clear c8b1
     try clear c8b2
     try clear p2
     obtain ⟨kq, x3_4, rfl, HA, HJ4, HO_4, HB⟩ := hcut
     cases kq with
     | zero => exact absurd HA.out (by simp [caravanref1_SpanText.j1])
     | succ kj4 =>
      have H := HA.out
      clear HA
      simp only [caravanref1_SpanText.j1] at H
      by_cases c9 : 0 ≤ x5_1
      ·rw [if_pos c9] at H
       have c9b0 : decide (0 ≤ x5_1) = true := decide_eq_true c9
       clear c9
       by_cases c10 : x5_1 < (t248.length : Int)
       ·rw [if_pos c10] at H
        have c10b0 : decide (x5_1 < (t248.length : Int)) = true := decide_eq_true c10
        clear c10
        replace H := Option.bind_eq_some_iff.mp H
        obtain ⟨t252, A110, H⟩ := H
        replace H : (if x3_4.size + t252.size ≤ 9223372036854775807 then (if ((rd_T31 t248 x5_1).f1) > ((rd_T31 t248 x5_1).f0) then (if (x3_4 ++ t252).size + 1 ≤ 9223372036854775807 then ((caravanref1_Digits.f kj4 ((rd_T31 t248 x5_1).f1)).bind fun t256 => (if ((x3_4 ++ t252) ++ (⟨#[45]⟩ : ByteArray)).size + t256.size ≤ 9223372036854775807 then (caravanref1_SpanText.l0 kj4 (((x3_4 ++ t252) ++ (⟨#[45]⟩ : ByteArray)) ++ t256) t248 (wrap64 (x5_1 + 1))) else (none))) else (none)) else (caravanref1_SpanText.l0 kj4 (x3_4 ++ t252) t248 (wrap64 (x5_1 + 1)))) else (none)) = some r := H
        have A11 := Aside0.mk A110
        clear A110
        by_cases c12 : x3_4.size + t252.size ≤ 9223372036854775807
        ·rw [if_pos c12] at H
         have c12b0 := eq_true c12
         have c12b1 : decide (x3_4.size + t252.size ≤ 9223372036854775807) = true := decide_eq_true c12
         try have c12b2 : (9223372036854775807 < x3_4.size + t252.size) = False := eq_false (Nat.not_lt.2 c12)
         by_cases c13 : ((rd_T31 t248 x5_1).f1) > ((rd_T31 t248 x5_1).f0)
         ·rw [if_pos c13] at H
          have c13b0 : decide (((rd_T31 t248 x5_1).f0) < ((rd_T31 t248 x5_1).f1)) = true := decide_eq_true c13
          clear c13
          by_cases c14 : (x3_4 ++ t252).size + 1 ≤ 9223372036854775807
          ·rw [if_pos c14] at H
           have c14b0 := eq_true c14
           have c14b1 : decide ((x3_4 ++ t252).size + 1 ≤ 9223372036854775807) = true := decide_eq_true c14
           try have c14b2 : (9223372036854775807 < (x3_4 ++ t252).size + 1) = False := eq_false (Nat.not_lt.2 c14)
           try (have c14b3 := c14b2; simp only [ByteArray.size_append] at c14b3)
           replace H := Option.bind_eq_some_iff.mp H
           obtain ⟨t256, A150, H⟩ := H
           replace H : (if ((x3_4 ++ t252) ++ (⟨#[45]⟩ : ByteArray)).size + t256.size ≤ 9223372036854775807 then (caravanref1_SpanText.l0 kj4 (((x3_4 ++ t252) ++ (⟨#[45]⟩ : ByteArray)) ++ t256) t248 (wrap64 (x5_1 + 1))) else (none)) = some r := H
           have A15 := Aside0.mk A150
           clear A150
           by_cases c16 : ((x3_4 ++ t252) ++ (⟨#[45]⟩ : ByteArray)).size + t256.size ≤ 9223372036854775807
           ·rw [if_pos c16] at H
            have c16b0 := eq_true c16
            have c16b1 : decide (((x3_4 ++ t252) ++ (⟨#[45]⟩ : ByteArray)).size + t256.size ≤ 9223372036854775807) = true := decide_eq_true c16
            try have c16b2 : (9223372036854775807 < ((x3_4 ++ t252) ++ (⟨#[45]⟩ : ByteArray)).size + t256.size) = False := eq_false (Nat.not_lt.2 c16)
            try (have c16b3 := c16b2; simp only [ByteArray.size_append] at c16b3)
            try (have c16b4 := c16b3; simp only [show (⟨#[45]⟩ : ByteArray).size = 1 from rfl] at c16b4)
            have H' := Aside0.mk H
            clear H
            have p251 : 0 ≤ (x5_1 : Int) := of_decide_eq_true (by first | (with_reducible assumption) | assumption)
            have q251 : x5_1 < (t248.length : Int) := of_decide_eq_true (by first | (with_reducible assumption) | assumption)
            obtain ⟨ad251, e251, hx251_0, hx251_1⟩ := at_T31 (Kd.R_reads' HO_4.out).2.2 x5_1 p251 q251
            cases e251
            replace p251 := eq_true p251
            replace q251 := eq_true q251
            go_wp2_with (first | (go_at_call 13; (with_reducible refine (caravanref1_Digits.calls kj4 ((rd_T31 t248 x5_1).f0) t252 _ A11.out).mono ?_); rintro e w17 ⟨rfl, hb⟩; have n0_ := Aside0.mk (Kd.R_below (q8524_ HO_4.out) hb); have n1_ := Aside0.mk (below_step (qdb35_ HB.out) hb); clear HO_4; clear HB; have HO_4 := n0_; have HB := n1_; clear n0_ n1_; (try clear hb); (try clear hb2); (try clear hk); (try clear hi); have p253 : 0 ≤ (x5_1 : Int) := of_decide_eq_true (by first | (with_reducible assumption) | assumption); have q253 : x5_1 < (t248.length : Int) := of_decide_eq_true (by first | (with_reducible assumption) | assumption); obtain ⟨ad253, e253, hx253_0, hx253_1⟩ := at_T31 (Kd.R_reads' HO_4.out).2.2 x5_1 p253 q253; obtain rfl : ad251 = ad253 := (by injection e253); replace p253 := eq_true p253; replace q253 := eq_true q253; have p254 : 0 ≤ (x5_1 : Int) := of_decide_eq_true (by first | (with_reducible assumption) | assumption); have q254 : x5_1 < (t248.length : Int) := of_decide_eq_true (by first | (with_reducible assumption) | assumption); obtain ⟨ad254, e254, hx254_0, hx254_1⟩ := at_T31 (Kd.R_reads' HO_4.out).2.2 x5_1 p254 q254; obtain rfl : ad251 = ad254 := (by injection e254); replace p254 := eq_true p254; replace q254 := eq_true q254; have p255 : 0 ≤ (x5_1 : Int) := of_decide_eq_true (by first | (with_reducible assumption) | assumption); have q255 : x5_1 < (t248.length : Int) := of_decide_eq_true (by first | (with_reducible assumption) | assumption); obtain ⟨ad255, e255, hx255_0, hx255_1⟩ := at_T31 (Kd.R_reads' HO_4.out).2.2 x5_1 p255 q255; obtain rfl : ad251 = ad255 := (by injection e255); replace p255 := eq_true p255; replace q255 := eq_true q255) | (go_at_call 13; (with_reducible refine (caravanref1_Digits.calls kj4 ((rd_T31 t248 x5_1).f1) t256 _ A15.out).mono ?_); rintro e w18 ⟨rfl, hb⟩; have n0_ := Aside0.mk (Kd.R_below (q8524_ HO_4.out) hb); have n1_ := Aside0.mk (below_step (qdb35_ HB.out) hb); clear HO_4; clear HB; have HO_4 := n0_; have HB := n1_; clear n0_ n1_; (try clear hb); (try clear hb2); (try clear hk); (try clear hi)))
            repeat (go_quiet (first | (go_at_call 13; (with_reducible refine (caravanref1_Digits.calls kj4 ((rd_T31 t248 x5_1).f0) t252 _ A11.out).mono ?_); rintro e w17 ⟨rfl, hb⟩; have n0_ := Aside0.mk (Kd.R_below (q8524_ HO_4.out) hb); have n1_ := Aside0.mk (below_step (qdb35_ HB.out) hb); clear HO_4; clear HB; have HO_4 := n0_; have HB := n1_; clear n0_ n1_; (try clear hb); (try clear hb2); (try clear hk); (try clear hi); have p253 : 0 ≤ (x5_1 : Int) := of_decide_eq_true (by first | (with_reducible assumption) | assumption); have q253 : x5_1 < (t248.length : Int) := of_decide_eq_true (by first | (with_reducible assumption) | assumption); obtain ⟨ad253, e253, hx253_0, hx253_1⟩ := at_T31 (Kd.R_reads' HO_4.out).2.2 x5_1 p253 q253; obtain rfl : ad251 = ad253 := (by injection e253); replace p253 := eq_true p253; replace q253 := eq_true q253; have p254 : 0 ≤ (x5_1 : Int) := of_decide_eq_true (by first | (with_reducible assumption) | assumption); have q254 : x5_1 < (t248.length : Int) := of_decide_eq_true (by first | (with_reducible assumption) | assumption); obtain ⟨ad254, e254, hx254_0, hx254_1⟩ := at_T31 (Kd.R_reads' HO_4.out).2.2 x5_1 p254 q254; obtain rfl : ad251 = ad254 := (by injection e254); replace p254 := eq_true p254; replace q254 := eq_true q254; have p255 : 0 ≤ (x5_1 : Int) := of_decide_eq_true (by first | (with_reducible assumption) | assumption); have q255 : x5_1 < (t248.length : Int) := of_decide_eq_true (by first | (with_reducible assumption) | assumption); obtain ⟨ad255, e255, hx255_0, hx255_1⟩ := at_T31 (Kd.R_reads' HO_4.out).2.2 x5_1 p255 q255; obtain rfl : ad251 = ad255 := (by injection e255); replace p255 := eq_true p255; replace q255 := eq_true q255) | (go_at_call 13; (with_reducible refine (caravanref1_Digits.calls kj4 ((rd_T31 t248 x5_1).f1) t256 _ A15.out).mono ?_); rintro e w18 ⟨rfl, hb⟩; have n0_ := Aside0.mk (Kd.R_below (q8524_ HO_4.out) hb); have n1_ := Aside0.mk (below_step (qdb35_ HB.out) hb); clear HO_4; clear HB; have HO_4 := n0_; have HB := n1_; clear n0_ n1_; (try clear hb); (try clear hb2); (try clear hk); (try clear hi))); try go_wp2_with (first | (go_at_call 13; (with_reducible refine (caravanref1_Digits.calls kj4 ((rd_T31 t248 x5_1).f0) t252 _ A11.out).mono ?_); rintro e w17 ⟨rfl, hb⟩; have n0_ := Aside0.mk (Kd.R_below (q8524_ HO_4.out) hb); have n1_ := Aside0.mk (below_step (qdb35_ HB.out) hb); clear HO_4; clear HB; have HO_4 := n0_; have HB := n1_; clear n0_ n1_; (try clear hb); (try clear hb2); (try clear hk); (try clear hi); have p253 : 0 ≤ (x5_1 : Int) := of_decide_eq_true (by first | (with_reducible assumption) | assumption); have q253 : x5_1 < (t248.length : Int) := of_decide_eq_true (by first | (with_reducible assumption) | assumption); obtain ⟨ad253, e253, hx253_0, hx253_1⟩ := at_T31 (Kd.R_reads' HO_4.out).2.2 x5_1 p253 q253; obtain rfl : ad251 = ad253 := (by injection e253); replace p253 := eq_true p253; replace q253 := eq_true q253; have p254 : 0 ≤ (x5_1 : Int) := of_decide_eq_true (by first | (with_reducible assumption) | assumption); have q254 : x5_1 < (t248.length : Int) := of_decide_eq_true (by first | (with_reducible assumption) | assumption); obtain ⟨ad254, e254, hx254_0, hx254_1⟩ := at_T31 (Kd.R_reads' HO_4.out).2.2 x5_1 p254 q254; obtain rfl : ad251 = ad254 := (by injection e254); replace p254 := eq_true p254; replace q254 := eq_true q254; have p255 : 0 ≤ (x5_1 : Int) := of_decide_eq_true (by first | (with_reducible assumption) | assumption); have q255 : x5_1 < (t248.length : Int) := of_decide_eq_true (by first | (with_reducible assumption) | assumption); obtain ⟨ad255, e255, hx255_0, hx255_1⟩ := at_T31 (Kd.R_reads' HO_4.out).2.2 x5_1 p255 q255; obtain rfl : ad251 = ad255 := (by injection e255); replace p255 := eq_true p255; replace q255 := eq_true q255) | (go_at_call 13; (with_reducible refine (caravanref1_Digits.calls kj4 ((rd_T31 t248 x5_1).f1) t256 _ A15.out).mono ?_); rintro e w18 ⟨rfl, hb⟩; have n0_ := Aside0.mk (Kd.R_below (q8524_ HO_4.out) hb); have n1_ := Aside0.mk (below_step (qdb35_ HB.out) hb); clear HO_4; clear HB; have HO_4 := n0_; have HB := n1_; clear n0_ n1_; (try clear hb); (try clear hb2); (try clear hk); (try clear hi))))
            go_roundg kj4
            case measure => have := HK1.out; have := HJ4.out; omega
            case rel => exact ⟨(((x3_4 ++ t252) ++ (⟨#[45]⟩ : ByteArray)) ++ t256), (wrap64 (x5_1 + 1)), (by first | rfl | (simp; done) | (simp [*]; done)), (by first | rfl | (simp; done) | (simp [*]; done)), H', ⟨by have := HK1.out; have := HJ4.out; omega⟩, ⟨by (with_reducible repeat (first | apply Kd.R_alloc | apply Kd.R_drewN | apply Kd.R_drew)); exact HO_4.out⟩, ⟨(qdb35_ HB.out)⟩⟩
           ·rw [if_neg c16] at H
            exact absurd H (by simp)
          ·rw [if_neg c14] at H
           exact absurd H (by simp)
         ·rw [if_neg c13] at H
          have c13b0 : decide (((rd_T31 t248 x5_1).f0) < ((rd_T31 t248 x5_1).f1)) = false := decide_eq_false c13
          clear c13
          have H' := Aside0.mk H
          clear H
          have p251 : 0 ≤ (x5_1 : Int) := of_decide_eq_true (by first | (with_reducible assumption) | assumption)
          have q251 : x5_1 < (t248.length : Int) := of_decide_eq_true (by first | (with_reducible assumption) | assumption)
          obtain ⟨ad251, e251, hx251_0, hx251_1⟩ := at_T31 (Kd.R_reads' HO_4.out).2.2 x5_1 p251 q251
          cases e251
          replace p251 := eq_true p251
          replace q251 := eq_true q251
          go_wp2_with (first | (go_at_call 13; (with_reducible refine (caravanref1_Digits.calls kj4 ((rd_T31 t248 x5_1).f0) t252 _ A11.out).mono ?_); rintro e w19 ⟨rfl, hb⟩; have n0_ := Aside0.mk (Kd.R_below (q8524_ HO_4.out) hb); have n1_ := Aside0.mk (below_step (qdb35_ HB.out) hb); clear HO_4; clear HB; have HO_4 := n0_; have HB := n1_; clear n0_ n1_; (try clear hb); (try clear hb2); (try clear hk); (try clear hi); have p253 : 0 ≤ (x5_1 : Int) := of_decide_eq_true (by first | (with_reducible assumption) | assumption); have q253 : x5_1 < (t248.length : Int) := of_decide_eq_true (by first | (with_reducible assumption) | assumption); obtain ⟨ad253, e253, hx253_0, hx253_1⟩ := at_T31 (Kd.R_reads' HO_4.out).2.2 x5_1 p253 q253; obtain rfl : ad251 = ad253 := (by injection e253); replace p253 := eq_true p253; replace q253 := eq_true q253; have p254 : 0 ≤ (x5_1 : Int) := of_decide_eq_true (by first | (with_reducible assumption) | assumption); have q254 : x5_1 < (t248.length : Int) := of_decide_eq_true (by first | (with_reducible assumption) | assumption); obtain ⟨ad254, e254, hx254_0, hx254_1⟩ := at_T31 (Kd.R_reads' HO_4.out).2.2 x5_1 p254 q254; obtain rfl : ad251 = ad254 := (by injection e254); replace p254 := eq_true p254; replace q254 := eq_true q254))
          repeat (go_quiet (first | (go_at_call 13; (with_reducible refine (caravanref1_Digits.calls kj4 ((rd_T31 t248 x5_1).f0) t252 _ A11.out).mono ?_); rintro e w19 ⟨rfl, hb⟩; have n0_ := Aside0.mk (Kd.R_below (q8524_ HO_4.out) hb); have n1_ := Aside0.mk (below_step (qdb35_ HB.out) hb); clear HO_4; clear HB; have HO_4 := n0_; have HB := n1_; clear n0_ n1_; (try clear hb); (try clear hb2); (try clear hk); (try clear hi); have p253 : 0 ≤ (x5_1 : Int) := of_decide_eq_true (by first | (with_reducible assumption) | assumption); have q253 : x5_1 < (t248.length : Int) := of_decide_eq_true (by first | (with_reducible assumption) | assumption); obtain ⟨ad253, e253, hx253_0, hx253_1⟩ := at_T31 (Kd.R_reads' HO_4.out).2.2 x5_1 p253 q253; obtain rfl : ad251 = ad253 := (by injection e253); replace p253 := eq_true p253; replace q253 := eq_true q253; have p254 : 0 ≤ (x5_1 : Int) := of_decide_eq_true (by first | (with_reducible assumption) | assumption); have q254 : x5_1 < (t248.length : Int) := of_decide_eq_true (by first | (with_reducible assumption) | assumption); obtain ⟨ad254, e254, hx254_0, hx254_1⟩ := at_T31 (Kd.R_reads' HO_4.out).2.2 x5_1 p254 q254; obtain rfl : ad251 = ad254 := (by injection e254); replace p254 := eq_true p254; replace q254 := eq_true q254)); try go_wp2_with (first | (go_at_call 13; (with_reducible refine (caravanref1_Digits.calls kj4 ((rd_T31 t248 x5_1).f0) t252 _ A11.out).mono ?_); rintro e w19 ⟨rfl, hb⟩; have n0_ := Aside0.mk (Kd.R_below (q8524_ HO_4.out) hb); have n1_ := Aside0.mk (below_step (qdb35_ HB.out) hb); clear HO_4; clear HB; have HO_4 := n0_; have HB := n1_; clear n0_ n1_; (try clear hb); (try clear hb2); (try clear hk); (try clear hi); have p253 : 0 ≤ (x5_1 : Int) := of_decide_eq_true (by first | (with_reducible assumption) | assumption); have q253 : x5_1 < (t248.length : Int) := of_decide_eq_true (by first | (with_reducible assumption) | assumption); obtain ⟨ad253, e253, hx253_0, hx253_1⟩ := at_T31 (Kd.R_reads' HO_4.out).2.2 x5_1 p253 q253; obtain rfl : ad251 = ad253 := (by injection e253); replace p253 := eq_true p253; replace q253 := eq_true q253; have p254 : 0 ≤ (x5_1 : Int) := of_decide_eq_true (by first | (with_reducible assumption) | assumption); have q254 : x5_1 < (t248.length : Int) := of_decide_eq_true (by first | (with_reducible assumption) | assumption); obtain ⟨ad254, e254, hx254_0, hx254_1⟩ := at_T31 (Kd.R_reads' HO_4.out).2.2 x5_1 p254 q254; obtain rfl : ad251 = ad254 := (by injection e254); replace p254 := eq_true p254; replace q254 := eq_true q254)))
          go_roundg kj4
          case measure => have := HK1.out; have := HJ4.out; omega
          case rel => exact ⟨(x3_4 ++ t252), (wrap64 (x5_1 + 1)), (by first | rfl | (simp; done) | (simp [*]; done)), (by first | rfl | (simp; done) | (simp [*]; done)), H', ⟨by have := HK1.out; have := HJ4.out; omega⟩, ⟨by (with_reducible repeat (first | apply Kd.R_alloc | apply Kd.R_drewN | apply Kd.R_drew)); exact HO_4.out⟩, ⟨(qdb35_ HB.out)⟩⟩
        ·rw [if_neg c12] at H
         exact absurd H (by simp)
       ·rw [if_neg c10] at H
        exact absurd H (by simp)
      ·rw [if_neg c9] at H
       exact absurd H (by simp)
   ·rw [if_neg c4] at H
    have c4b0 : decide (x5_1 < (t248.length : Int)) = false := decide_eq_false c4
    clear c4
    obtain rfl := Option.some.inj H
    obtain ⟨Ao20, co20, eo20⟩ := Kd.R_slice HO_4.out
    subst eo20
    go_wp2
    repeat (go_quiet (fail); try go_wp2)
    go_ret
    exact ⟨by first | rfl | (simp [errW_none, errW_some] <;> rfl) | (simp [*, errW_none, errW_some] <;> rfl), (qdb35_ HB.out)⟩

end Go.Proofs.YtnlakdpfkgjdaaaDoor.G
