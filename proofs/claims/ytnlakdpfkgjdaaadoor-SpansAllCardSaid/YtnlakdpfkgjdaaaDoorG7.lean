/- What functions of the translation come to, and their calls' proofs; by a program of mine over the kit's print, with contracts given by hand beside. Conditions: where a plain function tells none, nothing is said. -/
import Derived.Test.YtnlakdpfkgjdaaaDoorG0
import Derived.Test.YtnlakdpfkgjdaaaDoorG2
import Derived.Test.YtnlakdpfkgjdaaaDoorG6
namespace Go.Proofs.YtnlakdpfkgjdaaaDoor.G
open Go.RowKit Go.Proofs.YtnlakdpfkgjdaaaDoorW.PrintWords Go.Proofs.YtnlakdpfkgjdaaaDoorW.PrintLast Go.Proofs.YtnlakdpfkgjdaaaDoorW.PrintMore
attribute [local go_sem] max2_int min2_int max_two min_two max_three min_three max_four min_four   -- for this text's walks alone
set_option linter.unusedVariables false
set_option linter.unusedSimpArgs false

/-! ### caravanref1_ReadSpans: function 11 -/
mutual
def caravanref1_ReadSpans.l0 : Nat → ByteArray → List (S31) → Int → Int → Int → Int → Option ((List (S31)) × Bool)
 | 0, _, _, _, _, _, _ => none
 | k + 1, x0, x4, x5, x6, x7, x8 => if x8 ≤ (x0.size : Int) then (caravanref1_ReadSpans.j1 k x0 x4 x5 x6 x7 x8 (x0.toList != ([] : List UInt8))) else (caravanref1_ReadSpans.j1 k x0 x4 x5 x6 x7 x8 false)
def caravanref1_ReadSpans.j1 : Nat → ByteArray → List (S31) → Int → Int → Int → Int → Bool → Option ((List (S31)) × Bool)
 | 0, _, _, _, _, _, _, _ => none
 | k + 1, x0, x4, x5, x6, x7, x8, x16 => if x16 = true then (if x8 < (x0.size : Int) then (if 0 ≤ x8 then (if (bt x0 x8) ≥ 48 then (if (bt x0 x8) ≤ 57 then (caravanref1_ReadSpans.j2 k x0 x4 x5 x6 x7 x8 (decide (x5 < 16384))) else (caravanref1_ReadSpans.j2 k x0 x4 x5 x6 x7 x8 false)) else (caravanref1_ReadSpans.j2 k x0 x4 x5 x6 x7 x8 false)) else (none)) else (caravanref1_ReadSpans.j2 k x0 x4 x5 x6 x7 x8 false)) else ((caravanref1_MaySpans.f k x4).bind fun t263 => (if t263 = true then ((caravanref1_SpanText.f k x4).bind fun t264 => (if t264.toList = x0.toList then (some (x4, true)) else (some (([] : List (S31)), false)))) else (some (([] : List (S31)), false))))
def caravanref1_ReadSpans.j2 : Nat → ByteArray → List (S31) → Int → Int → Int → Int → Bool → Option ((List (S31)) × Bool)
 | 0, _, _, _, _, _, _, _ => none
 | k + 1, x0, x4, x5, x6, x7, x8, x19 => if x19 = true then (if 0 ≤ x8 then (if x8 < (x0.size : Int) then (caravanref1_ReadSpans.l0 k x0 x4 (wrap64 ((wrap64 (10 * x5)) + (((bt x0 x8) - 48) % 256))) x6 (wrap64 (x7 + 1)) (wrap64 (x8 + 1))) else (none)) else (none)) else (if x8 < (x0.size : Int) then (if 0 ≤ x8 then (if (bt x0 x8) = 45 then (if x6 < 0 then (caravanref1_ReadSpans.j3 k x0 x4 x5 x6 x7 x8 (decide (x7 > 0))) else (caravanref1_ReadSpans.j3 k x0 x4 x5 x6 x7 x8 false)) else (caravanref1_ReadSpans.j3 k x0 x4 x5 x6 x7 x8 false)) else (none)) else (caravanref1_ReadSpans.j3 k x0 x4 x5 x6 x7 x8 false))
def caravanref1_ReadSpans.j3 : Nat → ByteArray → List (S31) → Int → Int → Int → Int → Bool → Option ((List (S31)) × Bool)
 | 0, _, _, _, _, _, _, _ => none
 | k + 1, x0, x4, x5, x6, x7, x8, x50 => if x50 = true then (caravanref1_ReadSpans.l0 k x0 x4 0 x5 0 (wrap64 (x8 + 1))) else (if x8 = (x0.size : Int) then (caravanref1_ReadSpans.j4 k x0 x4 x5 x6 x8 (decide (x7 > 0))) else (if 0 ≤ x8 then (if x8 < (x0.size : Int) then (if (bt x0 x8) = 44 then (caravanref1_ReadSpans.j4 k x0 x4 x5 x6 x8 (decide (x7 > 0))) else (caravanref1_ReadSpans.j4 k x0 x4 x5 x6 x8 false)) else (none)) else (none)))
def caravanref1_ReadSpans.j4 : Nat → ByteArray → List (S31) → Int → Int → Int → Bool → Option ((List (S31)) × Bool)
 | 0, _, _, _, _, _, _ => none
 | k + 1, x0, x4, x5, x6, x8, x70 => if x70 = true then (if x6 < 0 then (if x4.length < 8796093022208 then (caravanref1_ReadSpans.l0 k x0 (x4 ++ [(⟨x5, x5⟩ : S31)]) 0 (-1) 0 (wrap64 (x8 + 1))) else (none)) else (if x4.length < 8796093022208 then (caravanref1_ReadSpans.l0 k x0 (x4 ++ [(⟨x6, x5⟩ : S31)]) 0 (-1) 0 (wrap64 (x8 + 1))) else (none))) else (some (([] : List (S31)), false))
end
def caravanref1_ReadSpans.f (k : Nat) (a0 : ByteArray) : Option ((List (S31)) × Bool) := caravanref1_ReadSpans.l0 k a0 ([] : List (S31)) 0 (-1) 0 0
theorem caravanref1_ReadSpans.mono_l : ∀ k, (∀ y0 y1 y2 y3 y4 y5, LeO (caravanref1_ReadSpans.l0 k y0 y1 y2 y3 y4 y5) (caravanref1_ReadSpans.l0 (k + 1) y0 y1 y2 y3 y4 y5)) ∧ (∀ y0 y1 y2 y3 y4 y5 y6, LeO (caravanref1_ReadSpans.j1 k y0 y1 y2 y3 y4 y5 y6) (caravanref1_ReadSpans.j1 (k + 1) y0 y1 y2 y3 y4 y5 y6)) ∧ (∀ y0 y1 y2 y3 y4 y5 y6, LeO (caravanref1_ReadSpans.j2 k y0 y1 y2 y3 y4 y5 y6) (caravanref1_ReadSpans.j2 (k + 1) y0 y1 y2 y3 y4 y5 y6)) ∧ (∀ y0 y1 y2 y3 y4 y5 y6, LeO (caravanref1_ReadSpans.j3 k y0 y1 y2 y3 y4 y5 y6) (caravanref1_ReadSpans.j3 (k + 1) y0 y1 y2 y3 y4 y5 y6)) ∧ (∀ y0 y1 y2 y3 y4 y5, LeO (caravanref1_ReadSpans.j4 k y0 y1 y2 y3 y4 y5) (caravanref1_ReadSpans.j4 (k + 1) y0 y1 y2 y3 y4 y5))
 | 0 => ⟨fun _ _ _ _ _ _ r h => by simp [caravanref1_ReadSpans.l0] at h, fun _ _ _ _ _ _ _ r h => by simp [caravanref1_ReadSpans.j1] at h, fun _ _ _ _ _ _ _ r h => by simp [caravanref1_ReadSpans.j2] at h, fun _ _ _ _ _ _ _ r h => by simp [caravanref1_ReadSpans.j3] at h, fun _ _ _ _ _ _ r h => by simp [caravanref1_ReadSpans.j4] at h⟩
 | k + 1 => by
  obtain ⟨ih0, ih1, ih2, ih3, ih4⟩ := caravanref1_ReadSpans.mono_l k
  refine ⟨?_, ?_, ?_, ?_, ?_⟩
  ·intro y0 y1 y2 y3 y4 y5
   unfold caravanref1_ReadSpans.l0
   repeat' first
   | (with_reducible exact ih0 _ _ _ _ _ _)
   | (with_reducible exact ih1 _ _ _ _ _ _ _)
   | (with_reducible exact ih2 _ _ _ _ _ _ _)
   | (with_reducible exact ih3 _ _ _ _ _ _ _)
   | (with_reducible exact ih4 _ _ _ _ _ _)
   | (with_reducible exact caravanref1_MaySpans.mono _ _)
   | (with_reducible exact caravanref1_SpanText.mono _ _)
   | (with_reducible exact LeO.refl _)
   | (with_reducible exact LeO.none _)
   | (with_reducible refine LeO.ite ?_ ?_)
   | (with_reducible refine LeO.bind ?_ (fun _ => ?_))
   | exact ih0 _ _ _ _ _ _
   | exact ih1 _ _ _ _ _ _ _
   | exact ih2 _ _ _ _ _ _ _
   | exact ih3 _ _ _ _ _ _ _
   | exact ih4 _ _ _ _ _ _
   | exact caravanref1_MaySpans.mono _ _
   | exact caravanref1_SpanText.mono _ _
   | exact LeO.none _
   | refine LeO.ite ?_ ?_
   | refine LeO.bind ?_ (fun _ => ?_)
  ·intro y0 y1 y2 y3 y4 y5 y6
   unfold caravanref1_ReadSpans.j1
   repeat' first
   | (with_reducible exact ih0 _ _ _ _ _ _)
   | (with_reducible exact ih1 _ _ _ _ _ _ _)
   | (with_reducible exact ih2 _ _ _ _ _ _ _)
   | (with_reducible exact ih3 _ _ _ _ _ _ _)
   | (with_reducible exact ih4 _ _ _ _ _ _)
   | (with_reducible exact caravanref1_MaySpans.mono _ _)
   | (with_reducible exact caravanref1_SpanText.mono _ _)
   | (with_reducible exact LeO.refl _)
   | (with_reducible exact LeO.none _)
   | (with_reducible refine LeO.ite ?_ ?_)
   | (with_reducible refine LeO.bind ?_ (fun _ => ?_))
   | exact ih0 _ _ _ _ _ _
   | exact ih1 _ _ _ _ _ _ _
   | exact ih2 _ _ _ _ _ _ _
   | exact ih3 _ _ _ _ _ _ _
   | exact ih4 _ _ _ _ _ _
   | exact caravanref1_MaySpans.mono _ _
   | exact caravanref1_SpanText.mono _ _
   | exact LeO.none _
   | refine LeO.ite ?_ ?_
   | refine LeO.bind ?_ (fun _ => ?_)
  ·intro y0 y1 y2 y3 y4 y5 y6
   unfold caravanref1_ReadSpans.j2
   repeat' first
   | (with_reducible exact ih0 _ _ _ _ _ _)
   | (with_reducible exact ih1 _ _ _ _ _ _ _)
   | (with_reducible exact ih2 _ _ _ _ _ _ _)
   | (with_reducible exact ih3 _ _ _ _ _ _ _)
   | (with_reducible exact ih4 _ _ _ _ _ _)
   | (with_reducible exact caravanref1_MaySpans.mono _ _)
   | (with_reducible exact caravanref1_SpanText.mono _ _)
   | (with_reducible exact LeO.refl _)
   | (with_reducible exact LeO.none _)
   | (with_reducible refine LeO.ite ?_ ?_)
   | (with_reducible refine LeO.bind ?_ (fun _ => ?_))
   | exact ih0 _ _ _ _ _ _
   | exact ih1 _ _ _ _ _ _ _
   | exact ih2 _ _ _ _ _ _ _
   | exact ih3 _ _ _ _ _ _ _
   | exact ih4 _ _ _ _ _ _
   | exact caravanref1_MaySpans.mono _ _
   | exact caravanref1_SpanText.mono _ _
   | exact LeO.none _
   | refine LeO.ite ?_ ?_
   | refine LeO.bind ?_ (fun _ => ?_)
  ·intro y0 y1 y2 y3 y4 y5 y6
   unfold caravanref1_ReadSpans.j3
   repeat' first
   | (with_reducible exact ih0 _ _ _ _ _ _)
   | (with_reducible exact ih1 _ _ _ _ _ _ _)
   | (with_reducible exact ih2 _ _ _ _ _ _ _)
   | (with_reducible exact ih3 _ _ _ _ _ _ _)
   | (with_reducible exact ih4 _ _ _ _ _ _)
   | (with_reducible exact caravanref1_MaySpans.mono _ _)
   | (with_reducible exact caravanref1_SpanText.mono _ _)
   | (with_reducible exact LeO.refl _)
   | (with_reducible exact LeO.none _)
   | (with_reducible refine LeO.ite ?_ ?_)
   | (with_reducible refine LeO.bind ?_ (fun _ => ?_))
   | exact ih0 _ _ _ _ _ _
   | exact ih1 _ _ _ _ _ _ _
   | exact ih2 _ _ _ _ _ _ _
   | exact ih3 _ _ _ _ _ _ _
   | exact ih4 _ _ _ _ _ _
   | exact caravanref1_MaySpans.mono _ _
   | exact caravanref1_SpanText.mono _ _
   | exact LeO.none _
   | refine LeO.ite ?_ ?_
   | refine LeO.bind ?_ (fun _ => ?_)
  ·intro y0 y1 y2 y3 y4 y5
   unfold caravanref1_ReadSpans.j4
   repeat' first
   | (with_reducible exact ih0 _ _ _ _ _ _)
   | (with_reducible exact ih1 _ _ _ _ _ _ _)
   | (with_reducible exact ih2 _ _ _ _ _ _ _)
   | (with_reducible exact ih3 _ _ _ _ _ _ _)
   | (with_reducible exact ih4 _ _ _ _ _ _)
   | (with_reducible exact caravanref1_MaySpans.mono _ _)
   | (with_reducible exact caravanref1_SpanText.mono _ _)
   | (with_reducible exact LeO.refl _)
   | (with_reducible exact LeO.none _)
   | (with_reducible refine LeO.ite ?_ ?_)
   | (with_reducible refine LeO.bind ?_ (fun _ => ?_))
   | exact ih0 _ _ _ _ _ _
   | exact ih1 _ _ _ _ _ _ _
   | exact ih2 _ _ _ _ _ _ _
   | exact ih3 _ _ _ _ _ _ _
   | exact ih4 _ _ _ _ _ _
   | exact caravanref1_MaySpans.mono _ _
   | exact caravanref1_SpanText.mono _ _
   | exact LeO.none _
   | refine LeO.ite ?_ ?_
   | refine LeO.bind ?_ (fun _ => ?_)
theorem caravanref1_ReadSpans.mono : ∀ a0 k, LeO (caravanref1_ReadSpans.f k a0) (caravanref1_ReadSpans.f (k + 1) a0) := by
 intro a0 k
 obtain ⟨ih0, ih1, ih2, ih3, ih4⟩ := caravanref1_ReadSpans.mono_l k
 unfold caravanref1_ReadSpans.f
 repeat' first
  | (with_reducible exact ih0 _ _ _ _ _ _)
  | (with_reducible exact ih1 _ _ _ _ _ _ _)
  | (with_reducible exact ih2 _ _ _ _ _ _ _)
  | (with_reducible exact ih3 _ _ _ _ _ _ _)
  | (with_reducible exact ih4 _ _ _ _ _ _)
  | (with_reducible exact caravanref1_MaySpans.mono _ _)
  | (with_reducible exact caravanref1_SpanText.mono _ _)
  | (with_reducible exact LeO.refl _)
  | (with_reducible exact LeO.none _)
  | (with_reducible refine LeO.ite ?_ ?_)
  | (with_reducible refine LeO.bind ?_ (fun _ => ?_))
  | exact ih0 _ _ _ _ _ _
  | exact ih1 _ _ _ _ _ _ _
  | exact ih2 _ _ _ _ _ _ _
  | exact ih3 _ _ _ _ _ _ _
  | exact ih4 _ _ _ _ _ _
  | exact caravanref1_MaySpans.mono _ _
  | exact caravanref1_SpanText.mono _ _
  | exact LeO.none _
  | refine LeO.ite ?_ ?_
  | refine LeO.bind ?_ (fun _ => ?_)
set_option maxHeartbeats 8000000 in
set_option maxRecDepth 100000 in
theorem caravanref1_ReadSpans.calls (k : Nat) (a0 : ByteArray) (r1 : List (S31)) (r2 : Bool) (w : World) (h : caravanref1_ReadSpans.f k a0 = some (r1, r2)) :
 Calls Tryd.prog 11 #[.string a0] w fun e w' => ∃ v0_ : Value, e = .returned (.tuple #[v0_, .bool r2]) ∧ Kd.R k31 31 w' w.heap.size (fun _ => True) v0_ r1 ∧ Below w.heap.size w w' := by
 have hu31 := Tryd.underlying31
 have HB := Aside0.mk (Below.refl w.heap.size w)
 have H : (caravanref1_ReadSpans.l0 k a0 ([] : List (S31)) 0 (-1) 0 0) = some (r1, r2) := h
 clear h
 have H' := Aside0.mk H
 clear H
 go_enter Tryd.func11, Tryd.ntmps11
 go_wp2
 go_loopg [4, 5, 6, 7, 8] k (fun kq v4 v5 v6 v7 v8 w' => ∃ (x4_1 : List (S31)) (x5_1 : Int) (x6_1 : Int) (x7_1 : Int) (x8_1 : Int), v5 = .int .i64 x5_1 ∧ v6 = .int .i64 x6_1 ∧ v7 = .int .i64 x7_1 ∧ v8 = .int .i64 x8_1 ∧ Aside0 (caravanref1_ReadSpans.l0 kq a0 x4_1 x5_1 x6_1 x7_1 x8_1 = some (r1, r2)) ∧ Aside0 (kq ≤ k) ∧ Aside0 (Kd.R k31 31 w' w.heap.size (fun _ => True) v4 x4_1) ∧ Aside0 (Below w.heap.size w w'))
 case atStart => exact ⟨(([] : List (S31))), (0), ((-1)), (0), (0), (by first | rfl | (simp; done) | (simp [*]; done)), (by first | rfl | (simp; done) | (simp [*]; done)), (by first | rfl | (simp; done) | (simp [*]; done)), (by first | rfl | (simp; done) | (simp [*]; done)), H', ⟨Nat.le_refl _⟩, ⟨by first | exact Kd.R_nil _ _ _ _ _ | exact Kd.N_nil _ _ _ _ _ | exact Kd.V_nil _ _ _ _ _ | exact Kd.Q_nil _ _ _ _ _ | exact Kd.S_nil _ _ _ _ _⟩, ⟨(qdb35_ HB.out)⟩⟩
 case round =>
  clear H'
  try clear c1
  obtain ⟨x4_1, x5_1, x6_1, x7_1, x8_1, rfl, rfl, rfl, rfl, HA, HK1, HO_4, HB⟩ := hrel
  cases gk with
  | zero => exact absurd HA.out (by simp [caravanref1_ReadSpans.l0])
  | succ k1 =>
   have H := HA.out
   clear HA
   simp only [caravanref1_ReadSpans.l0] at H
   have HC2 := Aside0.mk H
   clear H
   go_upto_region 4 with (fail)
   go_cut [16] (fun v16 wc => ∃ (kq : Nat) (x16_1 : Bool), v16 = .bool x16_1 ∧ Aside0 (caravanref1_ReadSpans.j1 kq a0 x4_1 x5_1 x6_1 x7_1 x8_1 x16_1 = some (r1, r2)) ∧ Aside0 (kq ≤ k1) ∧ Aside0 (Kd.R k31 31 wc w.heap.size (fun _ => True) u4 x4_1) ∧ Aside0 (Below w.heap.size w wc))
   case first =>
    have H := HC2.out
    clear HC2
    by_cases c3 : x8_1 ≤ (a0.size : Int)
    ·rw [if_pos c3] at H
     have c3b0 : decide (x8_1 ≤ (a0.size : Int)) = true := decide_eq_true c3
     clear c3
     (first | rw [c3b0] | (simp only [i64_w, i32_w]; rw [c3b0]) | skip)
     have H' := Aside0.mk H
     clear H
     go_wp2
     go_meet
     case rel => exact ⟨_, ((a0.toList != ([] : List UInt8))), (by first | rfl | (simp; done) | (simp [*]; done) | (simp; cases a0.toList <;> rfl)), H', ⟨by have := HK1.out; first | omega | exact Nat.le_refl _⟩, ⟨by (with_reducible repeat (first | apply Kd.R_alloc | apply Kd.R_drewN | apply Kd.R_drew)); exact HO_4.out⟩, ⟨(qdb35_ HB.out)⟩⟩
    ·rw [if_neg c3] at H
     have c3b0 : decide (x8_1 ≤ (a0.size : Int)) = false := decide_eq_false c3
     clear c3
     (first | rw [c3b0] | (simp only [i64_w, i32_w]; rw [c3b0]) | skip)
     have H' := Aside0.mk H
     clear H
     go_wp2
     go_meet
     case rel => exact ⟨_, (false), (by first | rfl | (simp; done) | (simp [*]; done)), H', ⟨by have := HK1.out; first | omega | exact Nat.le_refl _⟩, ⟨by (with_reducible repeat (first | apply Kd.R_alloc | apply Kd.R_drewN | apply Kd.R_drew)); exact HO_4.out⟩, ⟨(qdb35_ HB.out)⟩⟩
   case rest =>
    clear HC2
    try clear c1
    try clear p2
    try clear c3
    try clear c3b0
    obtain ⟨kq, x16_1, rfl, HA, HJ1, HO_4, HB⟩ := hcut
    cases kq with
    | zero => exact absurd HA.out (by simp [caravanref1_ReadSpans.j1])
    | succ kj1 =>
     have H := HA.out
     clear HA
     simp only [caravanref1_ReadSpans.j1] at H
     by_cases c4 : x16_1 = true
     ·subst c4
      have H1 : (if x8_1 < (a0.size : Int) then (if 0 ≤ x8_1 then (if (bt a0 x8_1) ≥ 48 then (if (bt a0 x8_1) ≤ 57 then (caravanref1_ReadSpans.j2 kj1 a0 x4_1 x5_1 x6_1 x7_1 x8_1 (decide (x5_1 < 16384))) else (caravanref1_ReadSpans.j2 kj1 a0 x4_1 x5_1 x6_1 x7_1 x8_1 false)) else (caravanref1_ReadSpans.j2 kj1 a0 x4_1 x5_1 x6_1 x7_1 x8_1 false)) else (none)) else (caravanref1_ReadSpans.j2 kj1 a0 x4_1 x5_1 x6_1 x7_1 x8_1 false)) = some (r1, r2) := by rw [if_pos rfl] at H; exact H
      clear H
      have H := H1
      clear H1
      have HC5 := Aside0.mk H
      clear H
      go_upto_region 7 with (fail)
      go_cut [19] (fun v19 wc => ∃ (kq : Nat) (x19_4 : Bool), v19 = .bool x19_4 ∧ Aside0 (caravanref1_ReadSpans.j2 kq a0 x4_1 x5_1 x6_1 x7_1 x8_1 x19_4 = some (r1, r2)) ∧ Aside0 (kq ≤ kj1) ∧ Aside0 (Kd.R k31 31 wc w.heap.size (fun _ => True) u4 x4_1) ∧ Aside0 (Below w.heap.size w wc))
      case first =>
       have H := HC5.out
       clear HC5
       by_cases c6 : x8_1 < (a0.size : Int)
       ·rw [if_pos c6] at H
        have c6b0 : decide (x8_1 < (a0.size : Int)) = true := decide_eq_true c6
        clear c6
        (first | rw [c6b0] | (simp only [i64_w, i32_w]; rw [c6b0]) | skip)
        by_cases c7 : 0 ≤ x8_1
        ·rw [if_pos c7] at H
         have c7b0 : decide (0 ≤ x8_1) = true := decide_eq_true c7
         clear c7
         by_cases c9 : (bt a0 x8_1) ≥ 48
         ·rw [if_pos c9] at H
          have c9b0 : decide (48 ≤ (bt a0 x8_1)) = true := decide_eq_true c9
          clear c9
          by_cases c11 : (bt a0 x8_1) ≤ 57
          ·rw [if_pos c11] at H
           have c11b0 : decide ((bt a0 x8_1) ≤ 57) = true := decide_eq_true c11
           clear c11
           have H' := Aside0.mk H
           clear H
           have p8 : 0 ≤ (x8_1 : Int) := of_decide_eq_true (by first | (with_reducible assumption) | assumption)
           have q8 : x8_1 < (a0.size : Int) := of_decide_eq_true (by first | (with_reducible assumption) | assumption)
           have hx8 := bt_at a0 x8_1
           replace p8 := eq_true p8
           replace q8 := eq_true q8
           have p10 : 0 ≤ (x8_1 : Int) := of_decide_eq_true (by first | (with_reducible assumption) | assumption)
           have q10 : x8_1 < (a0.size : Int) := of_decide_eq_true (by first | (with_reducible assumption) | assumption)
           have hx10 := bt_at a0 x8_1
           replace p10 := eq_true p10
           replace q10 := eq_true q10
           go_wp2
           go_meet
           case rel => exact ⟨_, (decide (x5_1 < 16384)), (by first | rfl | (simp; done) | (simp [*]; done)), H', ⟨by have := HK1.out; have := HJ1.out; first | omega | exact Nat.le_refl _⟩, ⟨by (with_reducible repeat (first | apply Kd.R_alloc | apply Kd.R_drewN | apply Kd.R_drew)); exact HO_4.out⟩, ⟨(qdb35_ HB.out)⟩⟩
          ·rw [if_neg c11] at H
           have c11b0 : decide ((bt a0 x8_1) ≤ 57) = false := decide_eq_false c11
           clear c11
           have H' := Aside0.mk H
           clear H
           have p8 : 0 ≤ (x8_1 : Int) := of_decide_eq_true (by first | (with_reducible assumption) | assumption)
           have q8 : x8_1 < (a0.size : Int) := of_decide_eq_true (by first | (with_reducible assumption) | assumption)
           have hx8 := bt_at a0 x8_1
           replace p8 := eq_true p8
           replace q8 := eq_true q8
           have p10 : 0 ≤ (x8_1 : Int) := of_decide_eq_true (by first | (with_reducible assumption) | assumption)
           have q10 : x8_1 < (a0.size : Int) := of_decide_eq_true (by first | (with_reducible assumption) | assumption)
           have hx10 := bt_at a0 x8_1
           replace p10 := eq_true p10
           replace q10 := eq_true q10
           go_wp2
           go_meet
           case rel => exact ⟨_, (false), (by first | rfl | (simp; done) | (simp [*]; done)), H', ⟨by have := HK1.out; have := HJ1.out; first | omega | exact Nat.le_refl _⟩, ⟨by (with_reducible repeat (first | apply Kd.R_alloc | apply Kd.R_drewN | apply Kd.R_drew)); exact HO_4.out⟩, ⟨(qdb35_ HB.out)⟩⟩
         ·rw [if_neg c9] at H
          have c9b0 : decide (48 ≤ (bt a0 x8_1)) = false := decide_eq_false c9
          clear c9
          have H' := Aside0.mk H
          clear H
          have p8 : 0 ≤ (x8_1 : Int) := of_decide_eq_true (by first | (with_reducible assumption) | assumption)
          have q8 : x8_1 < (a0.size : Int) := of_decide_eq_true (by first | (with_reducible assumption) | assumption)
          have hx8 := bt_at a0 x8_1
          replace p8 := eq_true p8
          replace q8 := eq_true q8
          go_wp2
          go_meet
          case rel => exact ⟨_, (false), (by first | rfl | (simp; done) | (simp [*]; done)), H', ⟨by have := HK1.out; have := HJ1.out; first | omega | exact Nat.le_refl _⟩, ⟨by (with_reducible repeat (first | apply Kd.R_alloc | apply Kd.R_drewN | apply Kd.R_drew)); exact HO_4.out⟩, ⟨(qdb35_ HB.out)⟩⟩
        ·rw [if_neg c7] at H
         exact absurd H (by simp)
       ·rw [if_neg c6] at H
        have c6b0 : decide (x8_1 < (a0.size : Int)) = false := decide_eq_false c6
        clear c6
        (first | rw [c6b0] | (simp only [i64_w, i32_w]; rw [c6b0]) | skip)
        have H' := Aside0.mk H
        clear H
        go_wp2
        go_meet
        case rel => exact ⟨_, (false), (by first | rfl | (simp; done) | (simp [*]; done)), H', ⟨by have := HK1.out; have := HJ1.out; first | omega | exact Nat.le_refl _⟩, ⟨by (with_reducible repeat (first | apply Kd.R_alloc | apply Kd.R_drewN | apply Kd.R_drew)); exact HO_4.out⟩, ⟨(qdb35_ HB.out)⟩⟩
      case rest =>
       clear HC5
       try clear c1
       try clear p1
       try clear q1
       try clear hx1
       try clear p2
       try clear c3
       try clear c3b0
       try clear c4
       try clear c6
       try clear c6b0
       try clear c7
       try clear c7b0
       try clear p8
       try clear q8
       try clear hx8
       try clear c9
       try clear c9b0
       try clear p10
       try clear q10
       try clear hx10
       try clear c11
       try clear c11b0
       try clear p10
       try clear p2
       try clear p8
       try clear q10
       try clear q8
       obtain ⟨kq, x19_4, rfl, HA, HJ4, HO_4, HB⟩ := hcut
       cases kq with
       | zero => exact absurd HA.out (by simp [caravanref1_ReadSpans.j2])
       | succ kj4 =>
        have H := HA.out
        clear HA
        simp only [caravanref1_ReadSpans.j2] at H
        by_cases c12 : x19_4 = true
        ·subst c12
         have H1 : (if 0 ≤ x8_1 then (if x8_1 < (a0.size : Int) then (caravanref1_ReadSpans.l0 kj4 a0 x4_1 (wrap64 ((wrap64 (10 * x5_1)) + (((bt a0 x8_1) - 48) % 256))) x6_1 (wrap64 (x7_1 + 1)) (wrap64 (x8_1 + 1))) else (none)) else (none)) = some (r1, r2) := by rw [if_pos rfl] at H; exact H
         clear H
         have H := H1
         clear H1
         by_cases c13 : 0 ≤ x8_1
         ·rw [if_pos c13] at H
          have c13b0 : decide (0 ≤ x8_1) = true := decide_eq_true c13
          clear c13
          by_cases c14 : x8_1 < (a0.size : Int)
          ·rw [if_pos c14] at H
           have c14b0 : decide (x8_1 < (a0.size : Int)) = true := decide_eq_true c14
           clear c14
           have H' := Aside0.mk H
           clear H
           have p15 : 0 ≤ (x8_1 : Int) := of_decide_eq_true (by first | (with_reducible assumption) | assumption)
           have q15 : x8_1 < (a0.size : Int) := of_decide_eq_true (by first | (with_reducible assumption) | assumption)
           have hx15 := bt_at a0 x8_1
           replace p15 := eq_true p15
           replace q15 := eq_true q15
           go_wp2
           go_roundg kj4
           case measure => have := HK1.out; have := HJ1.out; have := HJ4.out; omega
           case rel => exact ⟨(x4_1), (wrap64 ((wrap64 (10 * x5_1)) + (((bt a0 x8_1) - 48) % 256))), (x6_1), (wrap64 (x7_1 + 1)), (wrap64 (x8_1 + 1)), (by first | rfl | (simp; done) | (simp [*]; done)), (by first | rfl | (simp; done) | (simp [*]; done)), (by first | rfl | (simp; done) | (simp [*]; done)), (by first | rfl | (simp; done) | (simp [*]; done)), H', ⟨by have := HK1.out; have := HJ1.out; have := HJ4.out; omega⟩, ⟨by (with_reducible repeat (first | apply Kd.R_alloc | apply Kd.R_drewN | apply Kd.R_drew)); exact HO_4.out⟩, ⟨(qdb35_ HB.out)⟩⟩
          ·rw [if_neg c14] at H
           exact absurd H (by simp)
         ·rw [if_neg c13] at H
          exact absurd H (by simp)
        ·replace c12 := Bool.eq_false_iff.mpr c12
         subst c12
         have H1 : (if x8_1 < (a0.size : Int) then (if 0 ≤ x8_1 then (if (bt a0 x8_1) = 45 then (if x6_1 < 0 then (caravanref1_ReadSpans.j3 kj4 a0 x4_1 x5_1 x6_1 x7_1 x8_1 (decide (x7_1 > 0))) else (caravanref1_ReadSpans.j3 kj4 a0 x4_1 x5_1 x6_1 x7_1 x8_1 false)) else (caravanref1_ReadSpans.j3 kj4 a0 x4_1 x5_1 x6_1 x7_1 x8_1 false)) else (none)) else (caravanref1_ReadSpans.j3 kj4 a0 x4_1 x5_1 x6_1 x7_1 x8_1 false)) = some (r1, r2) := by rw [if_neg (show ¬ (false = true) by decide)] at H; exact H
         clear H
         have H := H1
         clear H1
         have HC16 := Aside0.mk H
         clear H
         go_upto_region 10 with (fail)
         go_cut [50] (fun v50 wc => ∃ (kq : Nat) (x50_15 : Bool), v50 = .bool x50_15 ∧ Aside0 (caravanref1_ReadSpans.j3 kq a0 x4_1 x5_1 x6_1 x7_1 x8_1 x50_15 = some (r1, r2)) ∧ Aside0 (kq ≤ kj4) ∧ Aside0 (Kd.R k31 31 wc w.heap.size (fun _ => True) u4 x4_1) ∧ Aside0 (Below w.heap.size w wc))
         case first =>
          have H := HC16.out
          clear HC16
          by_cases c17 : x8_1 < (a0.size : Int)
          ·rw [if_pos c17] at H
           have c17b0 : decide (x8_1 < (a0.size : Int)) = true := decide_eq_true c17
           clear c17
           (first | rw [c17b0] | (simp only [i64_w, i32_w]; rw [c17b0]) | skip)
           by_cases c18 : 0 ≤ x8_1
           ·rw [if_pos c18] at H
            have c18b0 : decide (0 ≤ x8_1) = true := decide_eq_true c18
            clear c18
            by_cases c20 : (bt a0 x8_1) = 45
            ·rw [if_pos c20] at H
             have c20b0 : ((bt a0 x8_1) == 45) = true := beq_iff_eq.mpr c20
             have c20b1 : ((bt a0 x8_1) != 45) = false := bne_eq_false_iff_eq.mpr c20
             clear c20
             by_cases c21 : x6_1 < 0
             ·rw [if_pos c21] at H
              have c21b0 : decide (x6_1 < 0) = true := decide_eq_true c21
              clear c21
              have H' := Aside0.mk H
              clear H
              have p19 : 0 ≤ (x8_1 : Int) := of_decide_eq_true (by first | (with_reducible assumption) | assumption)
              have q19 : x8_1 < (a0.size : Int) := of_decide_eq_true (by first | (with_reducible assumption) | assumption)
              have hx19 := bt_at a0 x8_1
              replace p19 := eq_true p19
              replace q19 := eq_true q19
              go_wp2
              go_meet
              case rel => exact ⟨_, (decide (x7_1 > 0)), (by first | rfl | (simp; done) | (simp [*]; done)), H', ⟨by have := HK1.out; have := HJ1.out; have := HJ4.out; first | omega | exact Nat.le_refl _⟩, ⟨by (with_reducible repeat (first | apply Kd.R_alloc | apply Kd.R_drewN | apply Kd.R_drew)); exact HO_4.out⟩, ⟨(qdb35_ HB.out)⟩⟩
             ·rw [if_neg c21] at H
              have c21b0 : decide (x6_1 < 0) = false := decide_eq_false c21
              clear c21
              have H' := Aside0.mk H
              clear H
              have p19 : 0 ≤ (x8_1 : Int) := of_decide_eq_true (by first | (with_reducible assumption) | assumption)
              have q19 : x8_1 < (a0.size : Int) := of_decide_eq_true (by first | (with_reducible assumption) | assumption)
              have hx19 := bt_at a0 x8_1
              replace p19 := eq_true p19
              replace q19 := eq_true q19
              go_wp2
              go_meet
              case rel => exact ⟨_, (false), (by first | rfl | (simp; done) | (simp [*]; done)), H', ⟨by have := HK1.out; have := HJ1.out; have := HJ4.out; first | omega | exact Nat.le_refl _⟩, ⟨by (with_reducible repeat (first | apply Kd.R_alloc | apply Kd.R_drewN | apply Kd.R_drew)); exact HO_4.out⟩, ⟨(qdb35_ HB.out)⟩⟩
            ·rw [if_neg c20] at H
             have c20b0 : ((bt a0 x8_1) == 45) = false := beq_eq_false_iff_ne.mpr c20
             have c20b1 : ((bt a0 x8_1) != 45) = true := bne_iff_ne.mpr c20
             have H' := Aside0.mk H
             clear H
             have p19 : 0 ≤ (x8_1 : Int) := of_decide_eq_true (by first | (with_reducible assumption) | assumption)
             have q19 : x8_1 < (a0.size : Int) := of_decide_eq_true (by first | (with_reducible assumption) | assumption)
             have hx19 := bt_at a0 x8_1
             replace p19 := eq_true p19
             replace q19 := eq_true q19
             go_wp2
             go_meet
             case rel => exact ⟨_, (false), (by first | rfl | (simp; done) | (simp [*]; done)), H', ⟨by have := HK1.out; have := HJ1.out; have := HJ4.out; first | omega | exact Nat.le_refl _⟩, ⟨by (with_reducible repeat (first | apply Kd.R_alloc | apply Kd.R_drewN | apply Kd.R_drew)); exact HO_4.out⟩, ⟨(qdb35_ HB.out)⟩⟩
           ·rw [if_neg c18] at H
            exact absurd H (by simp)
          ·rw [if_neg c17] at H
           have c17b0 : decide (x8_1 < (a0.size : Int)) = false := decide_eq_false c17
           clear c17
           (first | rw [c17b0] | (simp only [i64_w, i32_w]; rw [c17b0]) | skip)
           have H' := Aside0.mk H
           clear H
           go_wp2
           go_meet
           case rel => exact ⟨_, (false), (by first | rfl | (simp; done) | (simp [*]; done)), H', ⟨by have := HK1.out; have := HJ1.out; have := HJ4.out; first | omega | exact Nat.le_refl _⟩, ⟨by (with_reducible repeat (first | apply Kd.R_alloc | apply Kd.R_drewN | apply Kd.R_drew)); exact HO_4.out⟩, ⟨(qdb35_ HB.out)⟩⟩
         case rest =>
          clear HC16
          try clear c1
          try clear p1
          try clear q1
          try clear hx1
          try clear c2
          try clear p2
          try clear c3
          try clear c3b0
          try clear c4
          try clear c6
          try clear c6b0
          try clear p6
          try clear c7
          try clear c7b0
          try clear p8
          try clear q8
          try clear hx8
          try clear c9
          try clear c9b0
          try clear p10
          try clear q10
          try clear hx10
          try clear c11
          try clear c11b0
          try clear c12
          try clear c13
          try clear c13b0
          try clear c14
          try clear c14b0
          try clear p15
          try clear q15
          try clear hx15
          try clear c17
          try clear c17b0
          try clear c18
          try clear c18b0
          try clear p19
          try clear q19
          try clear hx19
          try clear c20
          try clear c20b0
          try clear c20b1
          try clear c21
          try clear c21b0
          try clear p1
          try clear p10
          try clear p15
          try clear p19
          try clear p2
          try clear p8
          try clear q1
          try clear q10
          try clear q15
          try clear q19
          try clear q8
          obtain ⟨kq, x50_15, rfl, HA, HJ15, HO_4, HB⟩ := hcut
          cases kq with
          | zero => exact absurd HA.out (by simp [caravanref1_ReadSpans.j3])
          | succ kj15 =>
           have H := HA.out
           clear HA
           simp only [caravanref1_ReadSpans.j3] at H
           by_cases c22 : x50_15 = true
           ·subst c22
            have H1 : (caravanref1_ReadSpans.l0 kj15 a0 x4_1 0 x5_1 0 (wrap64 (x8_1 + 1))) = some (r1, r2) := by rw [if_pos rfl] at H; exact H
            clear H
            have H := H1
            clear H1
            have H' := Aside0.mk H
            clear H
            go_wp2
            go_roundg kj15
            case measure => have := HK1.out; have := HJ1.out; have := HJ4.out; have := HJ15.out; omega
            case rel => exact ⟨(x4_1), (0), (x5_1), (0), (wrap64 (x8_1 + 1)), (by first | rfl | (simp; done) | (simp [*]; done)), (by first | rfl | (simp; done) | (simp [*]; done)), (by first | rfl | (simp; done) | (simp [*]; done)), (by first | rfl | (simp; done) | (simp [*]; done)), H', ⟨by have := HK1.out; have := HJ1.out; have := HJ4.out; have := HJ15.out; omega⟩, ⟨by (with_reducible repeat (first | apply Kd.R_alloc | apply Kd.R_drewN | apply Kd.R_drew)); exact HO_4.out⟩, ⟨(qdb35_ HB.out)⟩⟩
           ·replace c22 := Bool.eq_false_iff.mpr c22
            subst c22
            have H1 : (if x8_1 = (a0.size : Int) then (caravanref1_ReadSpans.j4 kj15 a0 x4_1 x5_1 x6_1 x8_1 (decide (x7_1 > 0))) else (if 0 ≤ x8_1 then (if x8_1 < (a0.size : Int) then (if (bt a0 x8_1) = 44 then (caravanref1_ReadSpans.j4 kj15 a0 x4_1 x5_1 x6_1 x8_1 (decide (x7_1 > 0))) else (caravanref1_ReadSpans.j4 kj15 a0 x4_1 x5_1 x6_1 x8_1 false)) else (none)) else (none))) = some (r1, r2) := by rw [if_neg (show ¬ (false = true) by decide)] at H; exact H
            clear H
            have H := H1
            clear H1
            have HC23 := Aside0.mk H
            clear H
            go_upto_region 14 with (fail)
            go_cut [70] (fun v70 wc => ∃ (kq : Nat) (x70_22 : Bool), v70 = .bool x70_22 ∧ Aside0 (caravanref1_ReadSpans.j4 kq a0 x4_1 x5_1 x6_1 x8_1 x70_22 = some (r1, r2)) ∧ Aside0 (kq ≤ kj15) ∧ Aside0 (Kd.R k31 31 wc w.heap.size (fun _ => True) u4 x4_1) ∧ Aside0 (Below w.heap.size w wc))
            case first =>
             have H := HC23.out
             clear HC23
             by_cases c24 : x8_1 = (a0.size : Int)
             ·rw [if_pos c24] at H
              have c24b0 : (x8_1 == (a0.size : Int)) = true := beq_iff_eq.mpr c24
              have c24b1 : (x8_1 != (a0.size : Int)) = false := bne_eq_false_iff_eq.mpr c24
              clear c24
              (first | rw [c24b0] | (simp only [i64_w, i32_w]; rw [c24b0]) | skip)
              have H' := Aside0.mk H
              clear H
              go_wp2
              go_meet
              case rel => exact ⟨_, (decide (x7_1 > 0)), (by first | rfl | (simp; done) | (simp [*]; done)), H', ⟨by have := HK1.out; have := HJ1.out; have := HJ4.out; have := HJ15.out; first | omega | exact Nat.le_refl _⟩, ⟨by (with_reducible repeat (first | apply Kd.R_alloc | apply Kd.R_drewN | apply Kd.R_drew)); exact HO_4.out⟩, ⟨(qdb35_ HB.out)⟩⟩
             ·rw [if_neg c24] at H
              have c24b0 : (x8_1 == (a0.size : Int)) = false := beq_eq_false_iff_ne.mpr c24
              have c24b1 : (x8_1 != (a0.size : Int)) = true := bne_iff_ne.mpr c24
              (first | rw [c24b0] | (simp only [i64_w, i32_w]; rw [c24b0]) | skip)
              by_cases c25 : 0 ≤ x8_1
              ·rw [if_pos c25] at H
               have c25b0 : decide (0 ≤ x8_1) = true := decide_eq_true c25
               clear c25
               by_cases c26 : x8_1 < (a0.size : Int)
               ·rw [if_pos c26] at H
                have c26b0 : decide (x8_1 < (a0.size : Int)) = true := decide_eq_true c26
                clear c26
                by_cases c28 : (bt a0 x8_1) = 44
                ·rw [if_pos c28] at H
                 have c28b0 : ((bt a0 x8_1) == 44) = true := beq_iff_eq.mpr c28
                 have c28b1 : ((bt a0 x8_1) != 44) = false := bne_eq_false_iff_eq.mpr c28
                 clear c28
                 have H' := Aside0.mk H
                 clear H
                 have p27 : 0 ≤ (x8_1 : Int) := of_decide_eq_true (by first | (with_reducible assumption) | assumption)
                 have q27 : x8_1 < (a0.size : Int) := of_decide_eq_true (by first | (with_reducible assumption) | assumption)
                 have hx27 := bt_at a0 x8_1
                 replace p27 := eq_true p27
                 replace q27 := eq_true q27
                 go_wp2
                 go_meet
                 case rel => exact ⟨_, (decide (x7_1 > 0)), (by first | rfl | (simp; done) | (simp [*]; done)), H', ⟨by have := HK1.out; have := HJ1.out; have := HJ4.out; have := HJ15.out; first | omega | exact Nat.le_refl _⟩, ⟨by (with_reducible repeat (first | apply Kd.R_alloc | apply Kd.R_drewN | apply Kd.R_drew)); exact HO_4.out⟩, ⟨(qdb35_ HB.out)⟩⟩
                ·rw [if_neg c28] at H
                 have c28b0 : ((bt a0 x8_1) == 44) = false := beq_eq_false_iff_ne.mpr c28
                 have c28b1 : ((bt a0 x8_1) != 44) = true := bne_iff_ne.mpr c28
                 have H' := Aside0.mk H
                 clear H
                 have p27 : 0 ≤ (x8_1 : Int) := of_decide_eq_true (by first | (with_reducible assumption) | assumption)
                 have q27 : x8_1 < (a0.size : Int) := of_decide_eq_true (by first | (with_reducible assumption) | assumption)
                 have hx27 := bt_at a0 x8_1
                 replace p27 := eq_true p27
                 replace q27 := eq_true q27
                 go_wp2
                 go_meet
                 case rel => exact ⟨_, (false), (by first | rfl | (simp; done) | (simp [*]; done)), H', ⟨by have := HK1.out; have := HJ1.out; have := HJ4.out; have := HJ15.out; first | omega | exact Nat.le_refl _⟩, ⟨by (with_reducible repeat (first | apply Kd.R_alloc | apply Kd.R_drewN | apply Kd.R_drew)); exact HO_4.out⟩, ⟨(qdb35_ HB.out)⟩⟩
               ·rw [if_neg c26] at H
                exact absurd H (by simp)
              ·rw [if_neg c25] at H
               exact absurd H (by simp)
            case rest =>
             clear HC23
             try clear c1
             try clear p1
             try clear q1
             try clear hx1
             try clear c2
             try clear p2
             try clear q2
             try clear hx2
             try clear c3
             try clear c3b0
             try clear c4
             try clear c6
             try clear c6b0
             try clear p6
             try clear c7
             try clear c7b0
             try clear p8
             try clear q8
             try clear hx8
             try clear c9
             try clear c9b0
             try clear p10
             try clear q10
             try clear hx10
             try clear c11
             try clear c11b0
             try clear c12
             try clear c13
             try clear c13b0
             try clear c14
             try clear c14b0
             try clear p15
             try clear q15
             try clear hx15
             try clear c17
             try clear c17b0
             try clear c18
             try clear c18b0
             try clear p19
             try clear q19
             try clear hx19
             try clear c20
             try clear c20b0
             try clear c20b1
             try clear c21
             try clear c21b0
             try clear c22
             try clear c24
             try clear c24b0
             try clear c24b1
             try clear c25
             try clear c25b0
             try clear c26
             try clear c26b0
             try clear p27
             try clear q27
             try clear hx27
             try clear c28
             try clear c28b0
             try clear c28b1
             try clear p1
             try clear p10
             try clear p15
             try clear p19
             try clear p2
             try clear p27
             try clear p6
             try clear p8
             try clear q1
             try clear q10
             try clear q15
             try clear q19
             try clear q27
             try clear q8
             obtain ⟨kq, x70_22, rfl, HA, HJ22, HO_4, HB⟩ := hcut
             cases kq with
             | zero => exact absurd HA.out (by simp [caravanref1_ReadSpans.j4])
             | succ kj22 =>
              have H := HA.out
              clear HA
              simp only [caravanref1_ReadSpans.j4] at H
              by_cases c29 : x70_22 = true
              ·subst c29
               have H1 : (if x6_1 < 0 then (if x4_1.length < 8796093022208 then (caravanref1_ReadSpans.l0 kj22 a0 (x4_1 ++ [(⟨x5_1, x5_1⟩ : S31)]) 0 (-1) 0 (wrap64 (x8_1 + 1))) else (none)) else (if x4_1.length < 8796093022208 then (caravanref1_ReadSpans.l0 kj22 a0 (x4_1 ++ [(⟨x6_1, x5_1⟩ : S31)]) 0 (-1) 0 (wrap64 (x8_1 + 1))) else (none))) = some (r1, r2) := by rw [if_pos rfl] at H; exact H
               clear H
               have H := H1
               clear H1
               by_cases c30 : x6_1 < 0
               ·rw [if_pos c30] at H
                have c30b0 : decide (x6_1 < 0) = true := decide_eq_true c30
                clear c30
                by_cases c31 : x4_1.length < 8796093022208
                ·rw [if_pos c31] at H
                 have LMc31 := Aside0.mk c31
                 clear c31
                 obtain ⟨y257, hy257⟩ : ∃ y_ : List (S31), y_ = (x4_1 ++ [(⟨x5_1, x5_1⟩ : S31)]) := ⟨_, rfl⟩
                 replace H : (caravanref1_ReadSpans.l0 kj22 a0 y257 0 (-1) 0 (wrap64 (x8_1 + 1))) = some (r1, r2) := by first | (rw [hy257]; with_reducible exact H) | (have H2_ := (Option.bind_some _ _).symm.trans H; rw [hy257]; with_reducible exact H2_) | (have H2_ := (Option.bind_some _ _).symm.trans H; with_reducible exact H2_) | with_reducible exact H | (rw [hy257]; exact H) | exact H
                 have Ny257 := Aside0.mk hy257
                 clear hy257
                 have H' := Aside0.mk H
                 clear H
                 go_wp2_with (first | ((with_reducible refine gate_builtin (b := .append) (xs := #[.tmp 88, .tmp 92]) rfl ?_); at_builtin; refine Kd.R_append k31 (w0 := w) w.heap.size rfl (.tmp 88) (.tmp 92) 23 31 (.agg #[(.int .i64 0), (.int .i64 0)]) 16 rfl Tryd.underlying23 info31 rfl (by decide) (by omega) u4 x4_1 (⟨x5_1, x5_1⟩ : S31) [.int .i64 x5_1, .int .i64 x5_1] (fun _ => True) (fun _ => False) rfl rfl ?aP (fun _ hk => hk.elim) ?aF ?aO ?aB ?aS ?aL ?_; (case aP => exact k31_mkM _ _ _ (⟨x5_1, x5_1⟩ : S31)); (case aB => exact (qdb35_ HB.out)); (case aF => exact (fun _ _ => trivial)); (case aO => exact (q8524_ HO_4.out)); (case aS => exact (below_size (qdb35_ HB.out))); (case aL => have := LMc31.out; omega); intro v258 w32 ho hb hg hat; rw [← Ny257.out] at ho; have n0_ := Aside0.mk (hb); have n1_ := Aside0.mk (ho); clear HB; clear HO_4; have HB := n0_; have HO259 := n1_; clear n0_ n1_; clear ho hb hg hat))
                 go_roundg kj22
                 case measure => have := HK1.out; have := HJ1.out; have := HJ4.out; have := HJ15.out; have := HJ22.out; omega
                 case rel => exact ⟨(y257), (0), ((-1)), (0), (wrap64 (x8_1 + 1)), (by first | rfl | (simp; done) | (simp [*]; done)), (by first | rfl | (simp; done) | (simp [*]; done)), (by first | rfl | (simp; done) | (simp [*]; done)), (by first | rfl | (simp; done) | (simp [*]; done)), H', ⟨by have := HK1.out; have := HJ1.out; have := HJ4.out; have := HJ15.out; have := HJ22.out; omega⟩, ⟨by (with_reducible repeat (first | apply Kd.R_alloc | apply Kd.R_drewN | apply Kd.R_drew)); exact HO259.out⟩, ⟨(qdb35_ HB.out)⟩⟩
                ·rw [if_neg c31] at H
                 exact absurd H (by simp)
               ·rw [if_neg c30] at H
                have c30b0 : decide (x6_1 < 0) = false := decide_eq_false c30
                clear c30
                by_cases c33 : x4_1.length < 8796093022208
                ·rw [if_pos c33] at H
                 have LMc33 := Aside0.mk c33
                 clear c33
                 obtain ⟨y260, hy260⟩ : ∃ y_ : List (S31), y_ = (x4_1 ++ [(⟨x6_1, x5_1⟩ : S31)]) := ⟨_, rfl⟩
                 replace H : (caravanref1_ReadSpans.l0 kj22 a0 y260 0 (-1) 0 (wrap64 (x8_1 + 1))) = some (r1, r2) := by first | (rw [hy260]; with_reducible exact H) | (have H2_ := (Option.bind_some _ _).symm.trans H; rw [hy260]; with_reducible exact H2_) | (have H2_ := (Option.bind_some _ _).symm.trans H; with_reducible exact H2_) | with_reducible exact H | (rw [hy260]; exact H) | exact H
                 have Ny260 := Aside0.mk hy260
                 clear hy260
                 have H' := Aside0.mk H
                 clear H
                 go_wp2_with (first | ((with_reducible refine gate_builtin (b := .append) (xs := #[.tmp 88, .tmp 92]) rfl ?_); at_builtin; refine Kd.R_append k31 (w0 := w) w.heap.size rfl (.tmp 88) (.tmp 92) 23 31 (.agg #[(.int .i64 0), (.int .i64 0)]) 16 rfl Tryd.underlying23 info31 rfl (by decide) (by omega) u4 x4_1 (⟨x6_1, x5_1⟩ : S31) [.int .i64 x6_1, .int .i64 x5_1] (fun _ => True) (fun _ => False) rfl rfl ?aP (fun _ hk => hk.elim) ?aF ?aO ?aB ?aS ?aL ?_; (case aP => exact k31_mkM _ _ _ (⟨x6_1, x5_1⟩ : S31)); (case aB => exact (qdb35_ HB.out)); (case aF => exact (fun _ _ => trivial)); (case aO => exact (q8524_ HO_4.out)); (case aS => exact (below_size (qdb35_ HB.out))); (case aL => have := LMc33.out; omega); intro v261 w34 ho hb hg hat; rw [← Ny260.out] at ho; have n0_ := Aside0.mk (hb); have n1_ := Aside0.mk (ho); clear HB; clear HO_4; have HB := n0_; have HO262 := n1_; clear n0_ n1_; clear ho hb hg hat))
                 go_roundg kj22
                 case measure => have := HK1.out; have := HJ1.out; have := HJ4.out; have := HJ15.out; have := HJ22.out; omega
                 case rel => exact ⟨(y260), (0), ((-1)), (0), (wrap64 (x8_1 + 1)), (by first | rfl | (simp; done) | (simp [*]; done)), (by first | rfl | (simp; done) | (simp [*]; done)), (by first | rfl | (simp; done) | (simp [*]; done)), (by first | rfl | (simp; done) | (simp [*]; done)), H', ⟨by have := HK1.out; have := HJ1.out; have := HJ4.out; have := HJ15.out; have := HJ22.out; omega⟩, ⟨by (with_reducible repeat (first | apply Kd.R_alloc | apply Kd.R_drewN | apply Kd.R_drew)); exact HO262.out⟩, ⟨(qdb35_ HB.out)⟩⟩
                ·rw [if_neg c33] at H
                 exact absurd H (by simp)
              ·replace c29 := Bool.eq_false_iff.mpr c29
               subst c29
               have H1 : (some (([] : List (S31)), false)) = some (r1, r2) := by rw [if_neg (show ¬ (false = true) by decide)] at H; exact H
               clear H
               have H := H1
               clear H1
               simp only [Option.some.injEq, Prod.mk.injEq] at H
               obtain ⟨rfl, rfl⟩ := H
               go_wp2
               go_ret2
               exact ⟨_, by first | rfl | (simp [errW_none, errW_some] <;> rfl) | (simp [*, errW_none, errW_some] <;> rfl), by first | exact Kd.R_nil _ _ _ _ _ | exact Kd.N_nil _ _ _ _ _ | exact Kd.V_nil _ _ _ _ _ | exact Kd.Q_nil _ _ _ _ _ | exact Kd.S_nil _ _ _ _ _, (qdb35_ HB.out)⟩
     ·replace c4 := Bool.eq_false_iff.mpr c4
      subst c4
      have H1 : ((caravanref1_MaySpans.f kj1 x4_1).bind fun t263 => (if t263 = true then ((caravanref1_SpanText.f kj1 x4_1).bind fun t264 => (if t264.toList = a0.toList then (some (x4_1, true)) else (some (([] : List (S31)), false)))) else (some (([] : List (S31)), false)))) = some (r1, r2) := by rw [if_neg (show ¬ (false = true) by decide)] at H; exact H
      clear H
      have H := H1
      clear H1
      replace H := Option.bind_eq_some_iff.mp H
      obtain ⟨t263, A350, H⟩ := H
      replace H : (if t263 = true then ((caravanref1_SpanText.f kj1 x4_1).bind fun t264 => (if t264.toList = a0.toList then (some (x4_1, true)) else (some (([] : List (S31)), false)))) else (some (([] : List (S31)), false))) = some (r1, r2) := H
      have A35 := Aside0.mk A350
      clear A350
      by_cases c36 : t263 = true
      ·subst c36
       have H1 : ((caravanref1_SpanText.f kj1 x4_1).bind fun t264 => (if t264.toList = a0.toList then (some (x4_1, true)) else (some (([] : List (S31)), false)))) = some (r1, r2) := by rw [if_pos rfl] at H; exact H
       clear H
       have H := H1
       clear H1
       replace H := Option.bind_eq_some_iff.mp H
       obtain ⟨t264, A370, H⟩ := H
       replace H : (if t264.toList = a0.toList then (some (x4_1, true)) else (some (([] : List (S31)), false))) = some (r1, r2) := H
       have A37 := Aside0.mk A370
       clear A370
       by_cases c38 : t264.toList = a0.toList
       ·rw [if_pos c38] at H
        have c38b0 : (t264.toList == a0.toList) = true := beq_iff_eq.mpr c38
        have c38b1 : (t264.toList != a0.toList) = false := bne_eq_false_iff_eq.mpr c38
        clear c38
        simp only [Option.some.injEq, Prod.mk.injEq] at H
        obtain ⟨rfl, rfl⟩ := H
        obtain ⟨Ao39, co39, eo39⟩ := Kd.R_slice HO_4.out
        subst eo39
        go_wp2_with (first | ((with_reducible refine gate_callee (f := 15) rfl ?_); refine goesL_ (some 95) rfl rfl Tryd.func15 (by kernel_rfl) rfl #[.slice Ao39 x4_1.length co39] rfl qM_ ?_; (with_reducible refine (caravanref1_MaySpans.calls kj1 _ _ x4_1 true _ ?side1 ?side2 A35.out).mono ?_); (case side1 => exact qC_ ((Kd.R_reads' HO_4.out).2.2)); (case side2 => exact (Kd.R_reads' HO_4.out).2.1); rintro e w' ⟨rfl, ⟨nd, rfl⟩⟩; refine ⟨_, rfl, ?_⟩) | (go_at_call 23; (with_reducible refine (caravanref1_SpanText.calls kj1 _ _ x4_1 t264 _ ?side1 ?side2 A37.out).mono ?_); (case side1 => exact qC_ ((Kd.R_reads' HO_4.out).2.2)); (case side2 => exact (Kd.R_reads' HO_4.out).2.1); rintro e w40 ⟨rfl, hb⟩; have n0_ := Aside0.mk (Kd.R_below (q8524_ HO_4.out) hb); have n1_ := Aside0.mk (below_step (qdb35_ HB.out) hb); clear HO_4; clear HB; have HO_4 := n0_; have HB := n1_; clear n0_ n1_; (try clear hb); (try clear hb2); (try clear hk); (try clear hi)))
        go_ret2
        exact ⟨_, by first | rfl | (simp [errW_none, errW_some] <;> rfl) | (simp [*, errW_none, errW_some] <;> rfl), by (with_reducible repeat (first | apply Kd.R_alloc | apply Kd.R_drewN | apply Kd.R_drew)); exact HO_4.out, (qdb35_ HB.out)⟩
       ·rw [if_neg c38] at H
        have c38b0 : (t264.toList == a0.toList) = false := beq_eq_false_iff_ne.mpr c38
        have c38b1 : (t264.toList != a0.toList) = true := bne_iff_ne.mpr c38
        simp only [Option.some.injEq, Prod.mk.injEq] at H
        obtain ⟨rfl, rfl⟩ := H
        obtain ⟨Ao41, co41, eo41⟩ := Kd.R_slice HO_4.out
        subst eo41
        go_wp2_with (first | ((with_reducible refine gate_callee (f := 15) rfl ?_); refine goesL_ (some 95) rfl rfl Tryd.func15 (by kernel_rfl) rfl #[.slice Ao41 x4_1.length co41] rfl qM_ ?_; (with_reducible refine (caravanref1_MaySpans.calls kj1 _ _ x4_1 true _ ?side1 ?side2 A35.out).mono ?_); (case side1 => exact qC_ ((Kd.R_reads' HO_4.out).2.2)); (case side2 => exact (Kd.R_reads' HO_4.out).2.1); rintro e w' ⟨rfl, ⟨nd, rfl⟩⟩; refine ⟨_, rfl, ?_⟩) | (go_at_call 23; (with_reducible refine (caravanref1_SpanText.calls kj1 _ _ x4_1 t264 _ ?side1 ?side2 A37.out).mono ?_); (case side1 => exact qC_ ((Kd.R_reads' HO_4.out).2.2)); (case side2 => exact (Kd.R_reads' HO_4.out).2.1); rintro e w42 ⟨rfl, hb⟩; have n0_ := Aside0.mk (Kd.R_below (q8524_ HO_4.out) hb); have n1_ := Aside0.mk (below_step (qdb35_ HB.out) hb); clear HO_4; clear HB; have HO_4 := n0_; have HB := n1_; clear n0_ n1_; (try clear hb); (try clear hb2); (try clear hk); (try clear hi)))
        go_ret2
        exact ⟨_, by first | rfl | (simp [errW_none, errW_some] <;> rfl) | (simp [*, errW_none, errW_some] <;> rfl), by first | exact Kd.R_nil _ _ _ _ _ | exact Kd.N_nil _ _ _ _ _ | exact Kd.V_nil _ _ _ _ _ | exact Kd.Q_nil _ _ _ _ _ | exact Kd.S_nil _ _ _ _ _, (qdb35_ HB.out)⟩
      ·replace c36 := Bool.eq_false_iff.mpr c36
       subst c36
       have H1 : (some (([] : List (S31)), false)) = some (r1, r2) := by rw [if_neg (show ¬ (false = true) by decide)] at H; exact H
       clear H
       have H := H1
       clear H1
       simp only [Option.some.injEq, Prod.mk.injEq] at H
       obtain ⟨rfl, rfl⟩ := H
       obtain ⟨Ao43, co43, eo43⟩ := Kd.R_slice HO_4.out
       subst eo43
       go_wp2_with (first | ((with_reducible refine gate_callee (f := 15) rfl ?_); refine goesL_ (some 95) rfl rfl Tryd.func15 (by kernel_rfl) rfl #[.slice Ao43 x4_1.length co43] rfl qM_ ?_; (with_reducible refine (caravanref1_MaySpans.calls kj1 _ _ x4_1 false _ ?side1 ?side2 A35.out).mono ?_); (case side1 => exact qC_ ((Kd.R_reads' HO_4.out).2.2)); (case side2 => exact (Kd.R_reads' HO_4.out).2.1); rintro e w' ⟨rfl, ⟨nd, rfl⟩⟩; refine ⟨_, rfl, ?_⟩))
       go_ret2
       exact ⟨_, by first | rfl | (simp [errW_none, errW_some] <;> rfl) | (simp [*, errW_none, errW_some] <;> rfl), by first | exact Kd.R_nil _ _ _ _ _ | exact Kd.N_nil _ _ _ _ _ | exact Kd.V_nil _ _ _ _ _ | exact Kd.Q_nil _ _ _ _ _ | exact Kd.S_nil _ _ _ _ _, (qdb35_ HB.out)⟩

end Go.Proofs.YtnlakdpfkgjdaaaDoor.G
