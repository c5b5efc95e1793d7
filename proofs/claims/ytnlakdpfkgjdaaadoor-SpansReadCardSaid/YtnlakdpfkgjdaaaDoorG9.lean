/- What functions of the translation come to, and their calls' proofs; by a program of mine over the kit's print, with contracts given by hand beside. Conditions: where a plain function tells none, nothing is said. -/
import Derived.Test.YtnlakdpfkgjdaaaDoorG0
import Derived.Test.YtnlakdpfkgjdaaaDoorG1
import Derived.Test.YtnlakdpfkgjdaaaDoorG2
import Derived.Test.YtnlakdpfkgjdaaaDoorGRead
namespace Go.Proofs.YtnlakdpfkgjdaaaDoor.G
open Go.RowKit Go.Proofs.YtnlakdpfkgjdaaaDoorW.PrintWords Go.Proofs.YtnlakdpfkgjdaaaDoorW.PrintLast Go.Proofs.YtnlakdpfkgjdaaaDoorW.PrintMore
attribute [local go_sem] max2_int min2_int max_two min_two max_three min_three max_four min_four   -- for this text's walks alone
set_option linter.unusedVariables false
set_option linter.unusedSimpArgs false

attribute [local go_sem high] eqA31
/-! ### caravanlaw2_SpansRead: function 4 -/
mutual
def caravanlaw2_SpansRead.j0 : Nat → Int → Int → Int → Int → Int → ByteArray → Option (Bool)
 | 0, _, _, _, _, _, _ => none
 | k + 1, x4, x11, x12, x13, x14, x15 => if x15.size + 1 ≤ 9223372036854775807 then ((caravanref1_Digits.f k x13).bind fun t281 => (if (x15 ++ (⟨#[44]⟩ : ByteArray)).size + t281.size ≤ 9223372036854775807 then (if x14 > x13 then (if ((x15 ++ (⟨#[44]⟩ : ByteArray)) ++ t281).size + 1 ≤ 9223372036854775807 then ((caravanref1_Digits.f k x14).bind fun t282 => (if (((x15 ++ (⟨#[44]⟩ : ByteArray)) ++ t281) ++ (⟨#[45]⟩ : ByteArray)).size + t282.size ≤ 9223372036854775807 then (caravanlaw2_SpansRead.j1 k x4 x11 x12 x13 x14 x15 ((((x15 ++ (⟨#[44]⟩ : ByteArray)) ++ t281) ++ (⟨#[45]⟩ : ByteArray)) ++ t282)) else (none))) else (none)) else (caravanlaw2_SpansRead.j1 k x4 x11 x12 x13 x14 x15 ((x15 ++ (⟨#[44]⟩ : ByteArray)) ++ t281))) else (none))) else (none)
def caravanlaw2_SpansRead.j1 : Nat → Int → Int → Int → Int → Int → ByteArray → ByteArray → Option (Bool)
 | 0, _, _, _, _, _, _, _ => none
 | k + 1, x4, x11, x12, x13, x14, x15, x16 => (spans_Read.f x16).bind fun bt283 => (if bt283.2 = true then (if (bt283.1.length : Int) = 2 then (if 0 < (bt283.1.length : Int) then (if (!(((rd_T31 bt283.1 0).f0) == x11) || (!(((rd_T31 bt283.1 0).f1) == x12))) = true then (caravanlaw2_SpansRead.j2 k x4 x11 x12 x13 x15 x16 true) else (if 1 < (bt283.1.length : Int) then (caravanlaw2_SpansRead.j2 k x4 x11 x12 x13 x15 x16 (!(((rd_T31 bt283.1 1).f0) == x13) || (!(((rd_T31 bt283.1 1).f1) == x14)))) else (none))) else (none)) else (caravanlaw2_SpansRead.j2 k x4 x11 x12 x13 x15 x16 true)) else (caravanlaw2_SpansRead.j2 k x4 x11 x12 x13 x15 x16 true))
def caravanlaw2_SpansRead.j2 : Nat → Int → Int → Int → Int → ByteArray → ByteArray → Bool → Option (Bool)
 | 0, _, _, _, _, _, _, _ => none
 | k + 1, x4, x11, x12, x13, x15, x16, x93 => if x93 = true then (some false) else (if x16.size + 1 ≤ 9223372036854775807 then (if 1 + x16.size ≤ 9223372036854775807 then (if x15.size + 1 ≤ 9223372036854775807 then ((caravanref1_Digits.f k (wrap64 (x12 + 1))).bind fun t289 => (if (x15 ++ (⟨#[44]⟩ : ByteArray)).size + t289.size ≤ 9223372036854775807 then ((caravanref1_Digits.f k x13).bind fun t290 => (if t290.size + 1 ≤ 9223372036854775807 then (if (t290 ++ (⟨#[44]⟩ : ByteArray)).size + x15.size ≤ 9223372036854775807 then (if (x15 ++ (⟨#[44]⟩ : ByteArray)).size + x15.size ≤ 9223372036854775807 then (if x15.size + 6 ≤ 9223372036854775807 then (if x15.size + 3 ≤ 9223372036854775807 then ((caravanref1_Digits.f k x11).bind fun t291 => (if t291.size + 1 ≤ 9223372036854775807 then ((caravanref1_Digits.f k x11).bind fun t292 => (if (t291 ++ (⟨#[45]⟩ : ByteArray)).size + t292.size ≤ 9223372036854775807 then ((some (([x16 ++ (⟨#[44]⟩ : ByteArray), (⟨#[44]⟩ : ByteArray) ++ x16, x16 ++ (⟨#[32]⟩ : ByteArray), (x15 ++ (⟨#[44]⟩ : ByteArray)) ++ t289, (t290 ++ (⟨#[44]⟩ : ByteArray)) ++ x15, (x15 ++ (⟨#[44]⟩ : ByteArray)) ++ x15, (⟨#[48]⟩ : ByteArray) ++ x16, x16 ++ (⟨#[45]⟩ : ByteArray), x15 ++ (⟨#[44, 49, 54, 51, 56, 52]⟩ : ByteArray), x15 ++ (⟨#[45, 45, 53]⟩ : ByteArray), (t291 ++ (⟨#[45]⟩ : ByteArray)) ++ t292, (⟨#[120]⟩ : ByteArray)] : List ByteArray) : List ByteArray)).bind fun y293 => (if (y293.length : Int) = 0 then (none) else (if 0 ≤ (Int.tmod (wrap64 (x4)) (y293.length : Int)) then (if (Int.tmod (wrap64 (x4)) (y293.length : Int)) < (y293.length : Int) then ((spans_Read.f (rdOf ByteArray.empty y293 (Int.tmod (wrap64 (x4)) (y293.length : Int)))).bind fun bt297 => (if bt297.2 = true then (some false) else (if (bt297.1.length : Int) = 0 then ((caravanlaw2_awake.f k).bind fun t301 => (some t301)) else (some false)))) else (none)) else (none)))) else (none))) else (none))) else (none)) else (none)) else (none)) else (none)) else (none))) else (none))) else (none)) else (none)) else (none))
end
def caravanlaw2_SpansRead.f (k : Nat) (a0 : Int) (a1 : Int) (a2 : Int) (a3 : Int) (a4 : Int) : Option (Bool) := (caravanref1_Digits.f k (Int.tmod (wrap64 (a0)) 8000)).bind fun t279 => (if (wrap64 ((Int.tmod (wrap64 (a0)) 8000) + (Int.tmod (wrap64 (a1)) 100))) > (Int.tmod (wrap64 (a0)) 8000) then (if t279.size + 1 ≤ 9223372036854775807 then ((caravanref1_Digits.f k (wrap64 ((Int.tmod (wrap64 (a0)) 8000) + (Int.tmod (wrap64 (a1)) 100)))).bind fun t280 => (if (t279 ++ (⟨#[45]⟩ : ByteArray)).size + t280.size ≤ 9223372036854775807 then (caravanlaw2_SpansRead.j0 k a4 (Int.tmod (wrap64 (a0)) 8000) (wrap64 ((Int.tmod (wrap64 (a0)) 8000) + (Int.tmod (wrap64 (a1)) 100))) (wrap64 ((wrap64 ((wrap64 ((Int.tmod (wrap64 (a0)) 8000) + (Int.tmod (wrap64 (a1)) 100))) + 2)) + (Int.tmod (wrap64 (a2)) 100))) (wrap64 ((wrap64 ((wrap64 ((wrap64 ((Int.tmod (wrap64 (a0)) 8000) + (Int.tmod (wrap64 (a1)) 100))) + 2)) + (Int.tmod (wrap64 (a2)) 100))) + (Int.tmod (wrap64 (a3)) 100))) ((t279 ++ (⟨#[45]⟩ : ByteArray)) ++ t280)) else (none))) else (none)) else (caravanlaw2_SpansRead.j0 k a4 (Int.tmod (wrap64 (a0)) 8000) (wrap64 ((Int.tmod (wrap64 (a0)) 8000) + (Int.tmod (wrap64 (a1)) 100))) (wrap64 ((wrap64 ((wrap64 ((Int.tmod (wrap64 (a0)) 8000) + (Int.tmod (wrap64 (a1)) 100))) + 2)) + (Int.tmod (wrap64 (a2)) 100))) (wrap64 ((wrap64 ((wrap64 ((wrap64 ((Int.tmod (wrap64 (a0)) 8000) + (Int.tmod (wrap64 (a1)) 100))) + 2)) + (Int.tmod (wrap64 (a2)) 100))) + (Int.tmod (wrap64 (a3)) 100))) t279))
theorem caravanlaw2_SpansRead.mono_l : ∀ k, (∀ y0 y1 y2 y3 y4 y5, LeO (caravanlaw2_SpansRead.j0 k y0 y1 y2 y3 y4 y5) (caravanlaw2_SpansRead.j0 (k + 1) y0 y1 y2 y3 y4 y5)) ∧ (∀ y0 y1 y2 y3 y4 y5 y6, LeO (caravanlaw2_SpansRead.j1 k y0 y1 y2 y3 y4 y5 y6) (caravanlaw2_SpansRead.j1 (k + 1) y0 y1 y2 y3 y4 y5 y6)) ∧ (∀ y0 y1 y2 y3 y4 y5 y6, LeO (caravanlaw2_SpansRead.j2 k y0 y1 y2 y3 y4 y5 y6) (caravanlaw2_SpansRead.j2 (k + 1) y0 y1 y2 y3 y4 y5 y6))
 | 0 => ⟨fun _ _ _ _ _ _ r h => by simp [caravanlaw2_SpansRead.j0] at h, fun _ _ _ _ _ _ _ r h => by simp [caravanlaw2_SpansRead.j1] at h, fun _ _ _ _ _ _ _ r h => by simp [caravanlaw2_SpansRead.j2] at h⟩
 | k + 1 => by
  obtain ⟨ih0, ih1, ih2⟩ := caravanlaw2_SpansRead.mono_l k
  refine ⟨?_, ?_, ?_⟩
  ·intro y0 y1 y2 y3 y4 y5
   unfold caravanlaw2_SpansRead.j0
   repeat' first
   | (with_reducible exact ih0 _ _ _ _ _ _)
   | (with_reducible exact ih1 _ _ _ _ _ _ _)
   | (with_reducible exact ih2 _ _ _ _ _ _ _)
   | (with_reducible exact caravanlaw2_awake.mono _)
   | (with_reducible exact caravanref1_Digits.mono _ _)
   | (with_reducible exact LeO.refl _)
   | (with_reducible exact LeO.none _)
   | (with_reducible refine LeO.ite ?_ ?_)
   | (with_reducible refine LeO.bind ?_ (fun _ => ?_))
   | exact ih0 _ _ _ _ _ _
   | exact ih1 _ _ _ _ _ _ _
   | exact ih2 _ _ _ _ _ _ _
   | exact caravanlaw2_awake.mono _
   | exact caravanref1_Digits.mono _ _
   | exact LeO.none _
   | refine LeO.ite ?_ ?_
   | refine LeO.bind ?_ (fun _ => ?_)
  ·intro y0 y1 y2 y3 y4 y5 y6
   unfold caravanlaw2_SpansRead.j1
   repeat' first
   | (with_reducible exact ih0 _ _ _ _ _ _)
   | (with_reducible exact ih1 _ _ _ _ _ _ _)
   | (with_reducible exact ih2 _ _ _ _ _ _ _)
   | (with_reducible exact caravanlaw2_awake.mono _)
   | (with_reducible exact caravanref1_Digits.mono _ _)
   | (with_reducible exact LeO.refl _)
   | (with_reducible exact LeO.none _)
   | (with_reducible refine LeO.ite ?_ ?_)
   | (with_reducible refine LeO.bind ?_ (fun _ => ?_))
   | exact ih0 _ _ _ _ _ _
   | exact ih1 _ _ _ _ _ _ _
   | exact ih2 _ _ _ _ _ _ _
   | exact caravanlaw2_awake.mono _
   | exact caravanref1_Digits.mono _ _
   | exact LeO.none _
   | refine LeO.ite ?_ ?_
   | refine LeO.bind ?_ (fun _ => ?_)
  ·intro y0 y1 y2 y3 y4 y5 y6
   unfold caravanlaw2_SpansRead.j2
   repeat' first
   | (with_reducible exact ih0 _ _ _ _ _ _)
   | (with_reducible exact ih1 _ _ _ _ _ _ _)
   | (with_reducible exact ih2 _ _ _ _ _ _ _)
   | (with_reducible exact caravanlaw2_awake.mono _)
   | (with_reducible exact caravanref1_Digits.mono _ _)
   | (with_reducible exact LeO.refl _)
   | (with_reducible exact LeO.none _)
   | (with_reducible refine LeO.ite ?_ ?_)
   | (with_reducible refine LeO.bind ?_ (fun _ => ?_))
   | exact ih0 _ _ _ _ _ _
   | exact ih1 _ _ _ _ _ _ _
   | exact ih2 _ _ _ _ _ _ _
   | exact caravanlaw2_awake.mono _
   | exact caravanref1_Digits.mono _ _
   | exact LeO.none _
   | refine LeO.ite ?_ ?_
   | refine LeO.bind ?_ (fun _ => ?_)
theorem caravanlaw2_SpansRead.mono : ∀ a0 a1 a2 a3 a4 k, LeO (caravanlaw2_SpansRead.f k a0 a1 a2 a3 a4) (caravanlaw2_SpansRead.f (k + 1) a0 a1 a2 a3 a4) := by
 intro a0 a1 a2 a3 a4 k
 obtain ⟨ih0, ih1, ih2⟩ := caravanlaw2_SpansRead.mono_l k
 unfold caravanlaw2_SpansRead.f
 repeat' first
  | (with_reducible exact ih0 _ _ _ _ _ _)
  | (with_reducible exact ih1 _ _ _ _ _ _ _)
  | (with_reducible exact ih2 _ _ _ _ _ _ _)
  | (with_reducible exact caravanlaw2_awake.mono _)
  | (with_reducible exact caravanref1_Digits.mono _ _)
  | (with_reducible exact LeO.refl _)
  | (with_reducible exact LeO.none _)
  | (with_reducible refine LeO.ite ?_ ?_)
  | (with_reducible refine LeO.bind ?_ (fun _ => ?_))
  | exact ih0 _ _ _ _ _ _
  | exact ih1 _ _ _ _ _ _ _
  | exact ih2 _ _ _ _ _ _ _
  | exact caravanlaw2_awake.mono _
  | exact caravanref1_Digits.mono _ _
  | exact LeO.none _
  | refine LeO.ite ?_ ?_
  | refine LeO.bind ?_ (fun _ => ?_)
set_option maxHeartbeats 8000000 in
set_option maxRecDepth 100000 in
theorem caravanlaw2_SpansRead.calls (k : Nat) (a0 : Int) (a1 : Int) (a2 : Int) (a3 : Int) (a4 : Int) (r : Bool) (w : World) (h : caravanlaw2_SpansRead.f k a0 a1 a2 a3 a4 = some r) (hrt_ : r = true) (hWd_ : Wd w) :
 Calls Tryd.prog 4 #[.int .u16 a0, .int .u16 a1, .int .u16 a2, .int .u16 a3, .int .u8 a4] w fun e w' => e = .returned (.bool r) ∧ Below w.heap.size w w' := by
 have hu31 := Tryd.underlying31
 have HB := Aside0.mk (Below.refl w.heap.size w)
 have H : ((caravanref1_Digits.f k (Int.tmod (wrap64 (a0)) 8000)).bind fun t279 => (if (wrap64 ((Int.tmod (wrap64 (a0)) 8000) + (Int.tmod (wrap64 (a1)) 100))) > (Int.tmod (wrap64 (a0)) 8000) then (if t279.size + 1 ≤ 9223372036854775807 then ((caravanref1_Digits.f k (wrap64 ((Int.tmod (wrap64 (a0)) 8000) + (Int.tmod (wrap64 (a1)) 100)))).bind fun t280 => (if (t279 ++ (⟨#[45]⟩ : ByteArray)).size + t280.size ≤ 9223372036854775807 then (caravanlaw2_SpansRead.j0 k a4 (Int.tmod (wrap64 (a0)) 8000) (wrap64 ((Int.tmod (wrap64 (a0)) 8000) + (Int.tmod (wrap64 (a1)) 100))) (wrap64 ((wrap64 ((wrap64 ((Int.tmod (wrap64 (a0)) 8000) + (Int.tmod (wrap64 (a1)) 100))) + 2)) + (Int.tmod (wrap64 (a2)) 100))) (wrap64 ((wrap64 ((wrap64 ((wrap64 ((Int.tmod (wrap64 (a0)) 8000) + (Int.tmod (wrap64 (a1)) 100))) + 2)) + (Int.tmod (wrap64 (a2)) 100))) + (Int.tmod (wrap64 (a3)) 100))) ((t279 ++ (⟨#[45]⟩ : ByteArray)) ++ t280)) else (none))) else (none)) else (caravanlaw2_SpansRead.j0 k a4 (Int.tmod (wrap64 (a0)) 8000) (wrap64 ((Int.tmod (wrap64 (a0)) 8000) + (Int.tmod (wrap64 (a1)) 100))) (wrap64 ((wrap64 ((wrap64 ((Int.tmod (wrap64 (a0)) 8000) + (Int.tmod (wrap64 (a1)) 100))) + 2)) + (Int.tmod (wrap64 (a2)) 100))) (wrap64 ((wrap64 ((wrap64 ((wrap64 ((Int.tmod (wrap64 (a0)) 8000) + (Int.tmod (wrap64 (a1)) 100))) + 2)) + (Int.tmod (wrap64 (a2)) 100))) + (Int.tmod (wrap64 (a3)) 100))) t279))) = some r := h
 clear h
 replace H := Option.bind_eq_some_iff.mp H
 obtain ⟨t279, A60, H⟩ := H
 replace H : (if (wrap64 ((Int.tmod (wrap64 (a0)) 8000) + (Int.tmod (wrap64 (a1)) 100))) > (Int.tmod (wrap64 (a0)) 8000) then (if t279.size + 1 ≤ 9223372036854775807 then ((caravanref1_Digits.f k (wrap64 ((Int.tmod (wrap64 (a0)) 8000) + (Int.tmod (wrap64 (a1)) 100)))).bind fun t280 => (if (t279 ++ (⟨#[45]⟩ : ByteArray)).size + t280.size ≤ 9223372036854775807 then (caravanlaw2_SpansRead.j0 k a4 (Int.tmod (wrap64 (a0)) 8000) (wrap64 ((Int.tmod (wrap64 (a0)) 8000) + (Int.tmod (wrap64 (a1)) 100))) (wrap64 ((wrap64 ((wrap64 ((Int.tmod (wrap64 (a0)) 8000) + (Int.tmod (wrap64 (a1)) 100))) + 2)) + (Int.tmod (wrap64 (a2)) 100))) (wrap64 ((wrap64 ((wrap64 ((wrap64 ((Int.tmod (wrap64 (a0)) 8000) + (Int.tmod (wrap64 (a1)) 100))) + 2)) + (Int.tmod (wrap64 (a2)) 100))) + (Int.tmod (wrap64 (a3)) 100))) ((t279 ++ (⟨#[45]⟩ : ByteArray)) ++ t280)) else (none))) else (none)) else (caravanlaw2_SpansRead.j0 k a4 (Int.tmod (wrap64 (a0)) 8000) (wrap64 ((Int.tmod (wrap64 (a0)) 8000) + (Int.tmod (wrap64 (a1)) 100))) (wrap64 ((wrap64 ((wrap64 ((Int.tmod (wrap64 (a0)) 8000) + (Int.tmod (wrap64 (a1)) 100))) + 2)) + (Int.tmod (wrap64 (a2)) 100))) (wrap64 ((wrap64 ((wrap64 ((wrap64 ((Int.tmod (wrap64 (a0)) 8000) + (Int.tmod (wrap64 (a1)) 100))) + 2)) + (Int.tmod (wrap64 (a2)) 100))) + (Int.tmod (wrap64 (a3)) 100))) t279)) = some r := H
 have A6 := Aside0.mk A60
 clear A60
 have HC7 := Aside0.mk H
 clear H
 go_enter Tryd.func4, Tryd.ntmps4
 go_upto_if 45 with (first | ((with_reducible refine gate_callee (f := 13) rfl ?_); refine goesL_ (some 42) rfl rfl Tryd.func13 (by kernel_rfl) rfl #[.int .i64 (Int.tmod (wrap64 (a0)) 8000)] rfl qM_ ?_; (with_reducible refine (caravanref1_Digits.calls k (Int.tmod (wrap64 (a0)) 8000) t279 _ A6.out).mono ?_); rintro e w8 ⟨rfl, hb⟩; refine ⟨_, rfl, ?_⟩; have n0_ := Aside0.mk (below_step (qdb35_ HB.out) hb); clear HB; have HB := n0_; clear n0_; (try clear hb); (try clear hb2); (try clear hk); (try clear hi)))
 (try simp only [Act.put, List.setIfInBounds_toArray, List.set_cons_zero, List.set_cons_succ])
 go_cut [15] (fun v15 wc => ∃ (kq : Nat) (x15_6 : ByteArray), v15 = .string x15_6 ∧ Aside0 (caravanlaw2_SpansRead.j0 kq a4 (Int.tmod (wrap64 (a0)) 8000) (wrap64 ((Int.tmod (wrap64 (a0)) 8000) + (Int.tmod (wrap64 (a1)) 100))) (wrap64 ((wrap64 ((wrap64 ((Int.tmod (wrap64 (a0)) 8000) + (Int.tmod (wrap64 (a1)) 100))) + 2)) + (Int.tmod (wrap64 (a2)) 100))) (wrap64 ((wrap64 ((wrap64 ((wrap64 ((Int.tmod (wrap64 (a0)) 8000) + (Int.tmod (wrap64 (a1)) 100))) + 2)) + (Int.tmod (wrap64 (a2)) 100))) + (Int.tmod (wrap64 (a3)) 100))) x15_6 = some r) ∧ Aside0 (kq ≤ k) ∧ Aside0 (Below w.heap.size w wc))
 case first =>
  have H := HC7.out
  clear HC7
  by_cases c9 : (wrap64 ((Int.tmod (wrap64 (a0)) 8000) + (Int.tmod (wrap64 (a1)) 100))) > (Int.tmod (wrap64 (a0)) 8000)
  ·rw [if_pos c9] at H
   have c9b0 : decide ((Int.tmod (wrap64 (a0)) 8000) < (wrap64 ((Int.tmod (wrap64 (a0)) 8000) + (Int.tmod (wrap64 (a1)) 100)))) = true := decide_eq_true c9
   clear c9
   (first | rw [c9b0] | (simp only [i64_w, i32_w]; rw [c9b0]) | skip)
   by_cases c10 : t279.size + 1 ≤ 9223372036854775807
   ·rw [if_pos c10] at H
    have c10b0 := eq_true c10
    have c10b1 : decide (t279.size + 1 ≤ 9223372036854775807) = true := decide_eq_true c10
    try have c10b2 : (9223372036854775807 < t279.size + 1) = False := eq_false (Nat.not_lt.2 c10)
    replace H := Option.bind_eq_some_iff.mp H
    obtain ⟨t280, A110, H⟩ := H
    replace H : (if (t279 ++ (⟨#[45]⟩ : ByteArray)).size + t280.size ≤ 9223372036854775807 then (caravanlaw2_SpansRead.j0 k a4 (Int.tmod (wrap64 (a0)) 8000) (wrap64 ((Int.tmod (wrap64 (a0)) 8000) + (Int.tmod (wrap64 (a1)) 100))) (wrap64 ((wrap64 ((wrap64 ((Int.tmod (wrap64 (a0)) 8000) + (Int.tmod (wrap64 (a1)) 100))) + 2)) + (Int.tmod (wrap64 (a2)) 100))) (wrap64 ((wrap64 ((wrap64 ((wrap64 ((Int.tmod (wrap64 (a0)) 8000) + (Int.tmod (wrap64 (a1)) 100))) + 2)) + (Int.tmod (wrap64 (a2)) 100))) + (Int.tmod (wrap64 (a3)) 100))) ((t279 ++ (⟨#[45]⟩ : ByteArray)) ++ t280)) else (none)) = some r := H
    have A11 := Aside0.mk A110
    clear A110
    by_cases c12 : (t279 ++ (⟨#[45]⟩ : ByteArray)).size + t280.size ≤ 9223372036854775807
    ·rw [if_pos c12] at H
     have c12b0 := eq_true c12
     have c12b1 : decide ((t279 ++ (⟨#[45]⟩ : ByteArray)).size + t280.size ≤ 9223372036854775807) = true := decide_eq_true c12
     try have c12b2 : (9223372036854775807 < (t279 ++ (⟨#[45]⟩ : ByteArray)).size + t280.size) = False := eq_false (Nat.not_lt.2 c12)
     try (have c12b3 := c12b2; simp only [ByteArray.size_append] at c12b3)
     try (have c12b4 := c12b3; simp only [show (⟨#[45]⟩ : ByteArray).size = 1 from rfl] at c12b4)
     have H' := Aside0.mk H
     clear H
     go_wp2_with (first | ((with_reducible refine gate_callee (f := 13) rfl ?_); refine goesL_ (some 49) rfl rfl Tryd.func13 (by kernel_rfl) rfl #[.int .i64 (wrap64 ((Int.tmod (wrap64 (a0)) 8000) + (Int.tmod (wrap64 (a1)) 100)))] rfl qM_ ?_; (with_reducible refine (caravanref1_Digits.calls k (wrap64 ((Int.tmod (wrap64 (a0)) 8000) + (Int.tmod (wrap64 (a1)) 100))) t280 _ A11.out).mono ?_); rintro e w13 ⟨rfl, hb⟩; refine ⟨_, rfl, ?_⟩; have n0_ := Aside0.mk (below_step (qdb35_ HB.out) hb); clear HB; have HB := n0_; clear n0_; (try clear hb); (try clear hb2); (try clear hk); (try clear hi)))
     go_meet
     case rel => exact ⟨_, ((t279 ++ (⟨#[45]⟩ : ByteArray)) ++ t280), (by first | rfl | (simp; done) | (simp [*]; done)), H', ⟨by first | omega | exact Nat.le_refl _⟩, ⟨(qdb35_ HB.out)⟩⟩
    ·rw [if_neg c12] at H
     exact absurd H (by simp)
   ·rw [if_neg c10] at H
    exact absurd H (by simp)
  ·rw [if_neg c9] at H
   have c9b0 : decide ((Int.tmod (wrap64 (a0)) 8000) < (wrap64 ((Int.tmod (wrap64 (a0)) 8000) + (Int.tmod (wrap64 (a1)) 100)))) = false := decide_eq_false c9
   clear c9
   (first | rw [c9b0] | (simp only [i64_w, i32_w]; rw [c9b0]) | skip)
   have H' := Aside0.mk H
   clear H
   go_wp2
   go_meet
   case rel => exact ⟨_, (t279), (by first | rfl | (simp; done) | (simp [*]; done)), H', ⟨by first | omega | exact Nat.le_refl _⟩, ⟨(qdb35_ HB.out)⟩⟩
 case rest =>
  clear HC7
  try clear c1
  try clear p2
  try clear c4
  try clear p6
  try clear c9
  try clear c9b0
  try clear c10
  try clear c10b0
  try clear c10b1
  try clear c10b2
  try clear c12
  try clear c12b0
  try clear c12b1
  try clear c12b2
  try clear c13
  obtain ⟨kq, x15_6, rfl, HA, HJ6, HB⟩ := hcut
  cases kq with
  | zero => exact absurd HA.out (by simp [caravanlaw2_SpansRead.j0])
  | succ kj6 =>
   have H := HA.out
   clear HA
   simp only [caravanlaw2_SpansRead.j0] at H
   by_cases c14 : x15_6.size + 1 ≤ 9223372036854775807
   ·rw [if_pos c14] at H
    have c14b0 := eq_true c14
    have c14b1 : decide (x15_6.size + 1 ≤ 9223372036854775807) = true := decide_eq_true c14
    try have c14b2 : (9223372036854775807 < x15_6.size + 1) = False := eq_false (Nat.not_lt.2 c14)
    replace H := Option.bind_eq_some_iff.mp H
    obtain ⟨t281, A150, H⟩ := H
    replace H : (if (x15_6 ++ (⟨#[44]⟩ : ByteArray)).size + t281.size ≤ 9223372036854775807 then (if (wrap64 ((wrap64 ((wrap64 ((wrap64 ((Int.tmod (wrap64 (a0)) 8000) + (Int.tmod (wrap64 (a1)) 100))) + 2)) + (Int.tmod (wrap64 (a2)) 100))) + (Int.tmod (wrap64 (a3)) 100))) > (wrap64 ((wrap64 ((wrap64 ((Int.tmod (wrap64 (a0)) 8000) + (Int.tmod (wrap64 (a1)) 100))) + 2)) + (Int.tmod (wrap64 (a2)) 100))) then (if ((x15_6 ++ (⟨#[44]⟩ : ByteArray)) ++ t281).size + 1 ≤ 9223372036854775807 then ((caravanref1_Digits.f kj6 (wrap64 ((wrap64 ((wrap64 ((wrap64 ((Int.tmod (wrap64 (a0)) 8000) + (Int.tmod (wrap64 (a1)) 100))) + 2)) + (Int.tmod (wrap64 (a2)) 100))) + (Int.tmod (wrap64 (a3)) 100)))).bind fun t282 => (if (((x15_6 ++ (⟨#[44]⟩ : ByteArray)) ++ t281) ++ (⟨#[45]⟩ : ByteArray)).size + t282.size ≤ 9223372036854775807 then (caravanlaw2_SpansRead.j1 kj6 a4 (Int.tmod (wrap64 (a0)) 8000) (wrap64 ((Int.tmod (wrap64 (a0)) 8000) + (Int.tmod (wrap64 (a1)) 100))) (wrap64 ((wrap64 ((wrap64 ((Int.tmod (wrap64 (a0)) 8000) + (Int.tmod (wrap64 (a1)) 100))) + 2)) + (Int.tmod (wrap64 (a2)) 100))) (wrap64 ((wrap64 ((wrap64 ((wrap64 ((Int.tmod (wrap64 (a0)) 8000) + (Int.tmod (wrap64 (a1)) 100))) + 2)) + (Int.tmod (wrap64 (a2)) 100))) + (Int.tmod (wrap64 (a3)) 100))) x15_6 ((((x15_6 ++ (⟨#[44]⟩ : ByteArray)) ++ t281) ++ (⟨#[45]⟩ : ByteArray)) ++ t282)) else (none))) else (none)) else (caravanlaw2_SpansRead.j1 kj6 a4 (Int.tmod (wrap64 (a0)) 8000) (wrap64 ((Int.tmod (wrap64 (a0)) 8000) + (Int.tmod (wrap64 (a1)) 100))) (wrap64 ((wrap64 ((wrap64 ((Int.tmod (wrap64 (a0)) 8000) + (Int.tmod (wrap64 (a1)) 100))) + 2)) + (Int.tmod (wrap64 (a2)) 100))) (wrap64 ((wrap64 ((wrap64 ((wrap64 ((Int.tmod (wrap64 (a0)) 8000) + (Int.tmod (wrap64 (a1)) 100))) + 2)) + (Int.tmod (wrap64 (a2)) 100))) + (Int.tmod (wrap64 (a3)) 100))) x15_6 ((x15_6 ++ (⟨#[44]⟩ : ByteArray)) ++ t281))) else (none)) = some r := H
    have A15 := Aside0.mk A150
    clear A150
    by_cases c16 : (x15_6 ++ (⟨#[44]⟩ : ByteArray)).size + t281.size ≤ 9223372036854775807
    ·rw [if_pos c16] at H
     have c16b0 := eq_true c16
     have c16b1 : decide ((x15_6 ++ (⟨#[44]⟩ : ByteArray)).size + t281.size ≤ 9223372036854775807) = true := decide_eq_true c16
     try have c16b2 : (9223372036854775807 < (x15_6 ++ (⟨#[44]⟩ : ByteArray)).size + t281.size) = False := eq_false (Nat.not_lt.2 c16)
     try (have c16b3 := c16b2; simp only [ByteArray.size_append] at c16b3)
     try (have c16b4 := c16b3; simp only [show (⟨#[44]⟩ : ByteArray).size = 1 from rfl] at c16b4)
     have HC17 := Aside0.mk H
     clear H
     go_upto_if 58 with (first | ((with_reducible refine gate_callee (f := 13) rfl ?_); refine goesL_ (some 54) rfl rfl Tryd.func13 (by kernel_rfl) rfl #[.int .i64 (wrap64 ((wrap64 ((wrap64 ((Int.tmod (wrap64 (a0)) 8000) + (Int.tmod (wrap64 (a1)) 100))) + 2)) + (Int.tmod (wrap64 (a2)) 100)))] rfl qM_ ?_; (with_reducible refine (caravanref1_Digits.calls kj6 (wrap64 ((wrap64 ((wrap64 ((Int.tmod (wrap64 (a0)) 8000) + (Int.tmod (wrap64 (a1)) 100))) + 2)) + (Int.tmod (wrap64 (a2)) 100))) t281 _ A15.out).mono ?_); rintro e w18 ⟨rfl, hb⟩; refine ⟨_, rfl, ?_⟩; have n0_ := Aside0.mk (below_step (qdb35_ HB.out) hb); clear HB; have HB := n0_; clear n0_; (try clear hb); (try clear hb2); (try clear hk); (try clear hi)))
     (try simp only [Act.put, List.setIfInBounds_toArray, List.set_cons_zero, List.set_cons_succ])
     go_cut [16] (fun v16 wc => ∃ (kq : Nat) (x16_16 : ByteArray), v16 = .string x16_16 ∧ Aside0 (caravanlaw2_SpansRead.j1 kq a4 (Int.tmod (wrap64 (a0)) 8000) (wrap64 ((Int.tmod (wrap64 (a0)) 8000) + (Int.tmod (wrap64 (a1)) 100))) (wrap64 ((wrap64 ((wrap64 ((Int.tmod (wrap64 (a0)) 8000) + (Int.tmod (wrap64 (a1)) 100))) + 2)) + (Int.tmod (wrap64 (a2)) 100))) (wrap64 ((wrap64 ((wrap64 ((wrap64 ((Int.tmod (wrap64 (a0)) 8000) + (Int.tmod (wrap64 (a1)) 100))) + 2)) + (Int.tmod (wrap64 (a2)) 100))) + (Int.tmod (wrap64 (a3)) 100))) x15_6 x16_16 = some r) ∧ Aside0 (kq ≤ kj6) ∧ Aside0 (Below w.heap.size w wc))
     case first =>
      have H := HC17.out
      clear HC17
      by_cases c19 : (wrap64 ((wrap64 ((wrap64 ((wrap64 ((Int.tmod (wrap64 (a0)) 8000) + (Int.tmod (wrap64 (a1)) 100))) + 2)) + (Int.tmod (wrap64 (a2)) 100))) + (Int.tmod (wrap64 (a3)) 100))) > (wrap64 ((wrap64 ((wrap64 ((Int.tmod (wrap64 (a0)) 8000) + (Int.tmod (wrap64 (a1)) 100))) + 2)) + (Int.tmod (wrap64 (a2)) 100)))
      ·rw [if_pos c19] at H
       have c19b0 : decide ((wrap64 ((wrap64 ((wrap64 ((Int.tmod (wrap64 (a0)) 8000) + (Int.tmod (wrap64 (a1)) 100))) + 2)) + (Int.tmod (wrap64 (a2)) 100))) < (wrap64 ((wrap64 ((wrap64 ((wrap64 ((Int.tmod (wrap64 (a0)) 8000) + (Int.tmod (wrap64 (a1)) 100))) + 2)) + (Int.tmod (wrap64 (a2)) 100))) + (Int.tmod (wrap64 (a3)) 100)))) = true := decide_eq_true c19
       clear c19
       (first | rw [c19b0] | (simp only [i64_w, i32_w]; rw [c19b0]) | skip)
       by_cases c20 : ((x15_6 ++ (⟨#[44]⟩ : ByteArray)) ++ t281).size + 1 ≤ 9223372036854775807
       ·rw [if_pos c20] at H
        have c20b0 := eq_true c20
        have c20b1 : decide (((x15_6 ++ (⟨#[44]⟩ : ByteArray)) ++ t281).size + 1 ≤ 9223372036854775807) = true := decide_eq_true c20
        try have c20b2 : (9223372036854775807 < ((x15_6 ++ (⟨#[44]⟩ : ByteArray)) ++ t281).size + 1) = False := eq_false (Nat.not_lt.2 c20)
        try (have c20b3 := c20b2; simp only [ByteArray.size_append] at c20b3)
        try (have c20b4 := c20b3; simp only [show (⟨#[44]⟩ : ByteArray).size = 1 from rfl] at c20b4)
        replace H := Option.bind_eq_some_iff.mp H
        obtain ⟨t282, A210, H⟩ := H
        replace H : (if (((x15_6 ++ (⟨#[44]⟩ : ByteArray)) ++ t281) ++ (⟨#[45]⟩ : ByteArray)).size + t282.size ≤ 9223372036854775807 then (caravanlaw2_SpansRead.j1 kj6 a4 (Int.tmod (wrap64 (a0)) 8000) (wrap64 ((Int.tmod (wrap64 (a0)) 8000) + (Int.tmod (wrap64 (a1)) 100))) (wrap64 ((wrap64 ((wrap64 ((Int.tmod (wrap64 (a0)) 8000) + (Int.tmod (wrap64 (a1)) 100))) + 2)) + (Int.tmod (wrap64 (a2)) 100))) (wrap64 ((wrap64 ((wrap64 ((wrap64 ((Int.tmod (wrap64 (a0)) 8000) + (Int.tmod (wrap64 (a1)) 100))) + 2)) + (Int.tmod (wrap64 (a2)) 100))) + (Int.tmod (wrap64 (a3)) 100))) x15_6 ((((x15_6 ++ (⟨#[44]⟩ : ByteArray)) ++ t281) ++ (⟨#[45]⟩ : ByteArray)) ++ t282)) else (none)) = some r := H
        have A21 := Aside0.mk A210
        clear A210
        by_cases c22 : (((x15_6 ++ (⟨#[44]⟩ : ByteArray)) ++ t281) ++ (⟨#[45]⟩ : ByteArray)).size + t282.size ≤ 9223372036854775807
        ·rw [if_pos c22] at H
         have c22b0 := eq_true c22
         have c22b1 : decide ((((x15_6 ++ (⟨#[44]⟩ : ByteArray)) ++ t281) ++ (⟨#[45]⟩ : ByteArray)).size + t282.size ≤ 9223372036854775807) = true := decide_eq_true c22
         try have c22b2 : (9223372036854775807 < (((x15_6 ++ (⟨#[44]⟩ : ByteArray)) ++ t281) ++ (⟨#[45]⟩ : ByteArray)).size + t282.size) = False := eq_false (Nat.not_lt.2 c22)
         try (have c22b3 := c22b2; simp only [ByteArray.size_append] at c22b3)
         try (have c22b4 := c22b3; simp only [show (⟨#[44]⟩ : ByteArray).size = 1 from rfl, show (⟨#[45]⟩ : ByteArray).size = 1 from rfl] at c22b4)
         have H' := Aside0.mk H
         clear H
         go_wp2_with (first | ((with_reducible refine gate_callee (f := 13) rfl ?_); refine goesL_ (some 62) rfl rfl Tryd.func13 (by kernel_rfl) rfl #[.int .i64 (wrap64 ((wrap64 ((wrap64 ((wrap64 ((Int.tmod (wrap64 (a0)) 8000) + (Int.tmod (wrap64 (a1)) 100))) + 2)) + (Int.tmod (wrap64 (a2)) 100))) + (Int.tmod (wrap64 (a3)) 100)))] rfl qM_ ?_; (with_reducible refine (caravanref1_Digits.calls kj6 (wrap64 ((wrap64 ((wrap64 ((wrap64 ((Int.tmod (wrap64 (a0)) 8000) + (Int.tmod (wrap64 (a1)) 100))) + 2)) + (Int.tmod (wrap64 (a2)) 100))) + (Int.tmod (wrap64 (a3)) 100))) t282 _ A21.out).mono ?_); rintro e w23 ⟨rfl, hb⟩; refine ⟨_, rfl, ?_⟩; have n0_ := Aside0.mk (below_step (qdb35_ HB.out) hb); clear HB; have HB := n0_; clear n0_; (try clear hb); (try clear hb2); (try clear hk); (try clear hi)))
         go_meet
         case rel => exact ⟨_, ((((x15_6 ++ (⟨#[44]⟩ : ByteArray)) ++ t281) ++ (⟨#[45]⟩ : ByteArray)) ++ t282), (by first | rfl | (simp; done) | (simp [*]; done)), H', ⟨by have := HJ6.out; first | omega | exact Nat.le_refl _⟩, ⟨(qdb35_ HB.out)⟩⟩
        ·rw [if_neg c22] at H
         exact absurd H (by simp)
       ·rw [if_neg c20] at H
        exact absurd H (by simp)
      ·rw [if_neg c19] at H
       have c19b0 : decide ((wrap64 ((wrap64 ((wrap64 ((Int.tmod (wrap64 (a0)) 8000) + (Int.tmod (wrap64 (a1)) 100))) + 2)) + (Int.tmod (wrap64 (a2)) 100))) < (wrap64 ((wrap64 ((wrap64 ((wrap64 ((Int.tmod (wrap64 (a0)) 8000) + (Int.tmod (wrap64 (a1)) 100))) + 2)) + (Int.tmod (wrap64 (a2)) 100))) + (Int.tmod (wrap64 (a3)) 100)))) = false := decide_eq_false c19
       clear c19
       (first | rw [c19b0] | (simp only [i64_w, i32_w]; rw [c19b0]) | skip)
       have H' := Aside0.mk H
       clear H
       go_wp2
       go_meet
       case rel => exact ⟨_, ((x15_6 ++ (⟨#[44]⟩ : ByteArray)) ++ t281), (by first | rfl | (simp; done) | (simp [*]; done)), H', ⟨by have := HJ6.out; first | omega | exact Nat.le_refl _⟩, ⟨(qdb35_ HB.out)⟩⟩
     case rest =>
      clear HC17
      try clear c1
      try clear c2
      try clear p2
      try clear c4
      try clear p6
      try clear c9
      try clear c9b0
      try clear c10
      try clear c10b0
      try clear c10b1
      try clear c10b2
      try clear c12
      try clear c12b0
      try clear c12b1
      try clear c12b2
      try clear c13
      try clear c14
      try clear c14b0
      try clear c14b1
      try clear c14b2
      try clear c16
      try clear c16b0
      try clear c16b1
      try clear c16b2
      try clear c19
      try clear c19b0
      try clear c20
      try clear c20b0
      try clear c20b1
      try clear c20b2
      try clear c22
      try clear c22b0
      try clear c22b1
      try clear c22b2
      try clear p2
      try clear p6
      obtain ⟨kq, x16_16, rfl, HA, HJ16, HB⟩ := hcut
      cases kq with
      | zero => exact absurd HA.out (by simp [caravanlaw2_SpansRead.j1])
      | succ kj16 =>
       have H := HA.out
       clear HA
       simp only [caravanlaw2_SpansRead.j1] at H
       replace H := Option.bind_eq_some_iff.mp H
       obtain ⟨⟨t283, t284⟩, A240, H⟩ := H
       replace H : (if t284 = true then (if (t283.length : Int) = 2 then (if 0 < (t283.length : Int) then (if (!(((rd_T31 t283 0).f0) == (Int.tmod (wrap64 (a0)) 8000)) || (!(((rd_T31 t283 0).f1) == (wrap64 ((Int.tmod (wrap64 (a0)) 8000) + (Int.tmod (wrap64 (a1)) 100)))))) = true then (caravanlaw2_SpansRead.j2 kj16 a4 (Int.tmod (wrap64 (a0)) 8000) (wrap64 ((Int.tmod (wrap64 (a0)) 8000) + (Int.tmod (wrap64 (a1)) 100))) (wrap64 ((wrap64 ((wrap64 ((Int.tmod (wrap64 (a0)) 8000) + (Int.tmod (wrap64 (a1)) 100))) + 2)) + (Int.tmod (wrap64 (a2)) 100))) x15_6 x16_16 true) else (if 1 < (t283.length : Int) then (caravanlaw2_SpansRead.j2 kj16 a4 (Int.tmod (wrap64 (a0)) 8000) (wrap64 ((Int.tmod (wrap64 (a0)) 8000) + (Int.tmod (wrap64 (a1)) 100))) (wrap64 ((wrap64 ((wrap64 ((Int.tmod (wrap64 (a0)) 8000) + (Int.tmod (wrap64 (a1)) 100))) + 2)) + (Int.tmod (wrap64 (a2)) 100))) x15_6 x16_16 (!(((rd_T31 t283 1).f0) == (wrap64 ((wrap64 ((wrap64 ((Int.tmod (wrap64 (a0)) 8000) + (Int.tmod (wrap64 (a1)) 100))) + 2)) + (Int.tmod (wrap64 (a2)) 100)))) || (!(((rd_T31 t283 1).f1) == (wrap64 ((wrap64 ((wrap64 ((wrap64 ((Int.tmod (wrap64 (a0)) 8000) + (Int.tmod (wrap64 (a1)) 100))) + 2)) + (Int.tmod (wrap64 (a2)) 100))) + (Int.tmod (wrap64 (a3)) 100))))))) else (none))) else (none)) else (caravanlaw2_SpansRead.j2 kj16 a4 (Int.tmod (wrap64 (a0)) 8000) (wrap64 ((Int.tmod (wrap64 (a0)) 8000) + (Int.tmod (wrap64 (a1)) 100))) (wrap64 ((wrap64 ((wrap64 ((Int.tmod (wrap64 (a0)) 8000) + (Int.tmod (wrap64 (a1)) 100))) + 2)) + (Int.tmod (wrap64 (a2)) 100))) x15_6 x16_16 true)) else (caravanlaw2_SpansRead.j2 kj16 a4 (Int.tmod (wrap64 (a0)) 8000) (wrap64 ((Int.tmod (wrap64 (a0)) 8000) + (Int.tmod (wrap64 (a1)) 100))) (wrap64 ((wrap64 ((wrap64 ((Int.tmod (wrap64 (a0)) 8000) + (Int.tmod (wrap64 (a1)) 100))) + 2)) + (Int.tmod (wrap64 (a2)) 100))) x15_6 x16_16 true)) = some r := H
       have A24 := Aside0.mk A240
       clear A240
       have HC25 := Aside0.mk H
       clear H
       go_upto_region 12 with (first | ((with_reducible refine gate_callee (f := 10) rfl ?_); refine goesL_ (some 66) rfl rfl Tryd.func10 (by kernel_rfl) rfl #[.string x16_16] rfl qM_ ?_; (with_reducible refine (spans_Read.calls x16_16 t283 t284 _ A24.out (Wd.of hWd_ (qdb35_ HB.out))).mono ?_); rintro e w26 ⟨v285, rfl, ho0, hb⟩; refine ⟨_, rfl, ?_⟩; have n0_ := Aside0.mk (Kd.R_lower ho0 (below_size (qdb35_ HB.out))); have n1_ := Aside0.mk (below_step (qdb35_ HB.out) hb); clear HB; have HO286 := n0_; have HB := n1_; clear n0_ n1_; (try clear hb); (try clear hb2); (try clear hk); (try clear hi); (try clear ho0)))
       (try simp only [Act.put, List.setIfInBounds_toArray, List.set_cons_zero, List.set_cons_succ])
       go_cut [93] (fun v93 wc => ∃ (kq : Nat) (x93_24 : Bool), v93 = .bool x93_24 ∧ Aside0 (caravanlaw2_SpansRead.j2 kq a4 (Int.tmod (wrap64 (a0)) 8000) (wrap64 ((Int.tmod (wrap64 (a0)) 8000) + (Int.tmod (wrap64 (a1)) 100))) (wrap64 ((wrap64 ((wrap64 ((Int.tmod (wrap64 (a0)) 8000) + (Int.tmod (wrap64 (a1)) 100))) + 2)) + (Int.tmod (wrap64 (a2)) 100))) x15_6 x16_16 x93_24 = some r) ∧ Aside0 (kq ≤ kj16) ∧ Aside0 (Below w.heap.size w wc))
       case first =>
        have H := HC25.out
        clear HC25
        by_cases c27 : t284 = true
        ·subst c27
         have H1 : (if (t283.length : Int) = 2 then (if 0 < (t283.length : Int) then (if (!(((rd_T31 t283 0).f0) == (Int.tmod (wrap64 (a0)) 8000)) || (!(((rd_T31 t283 0).f1) == (wrap64 ((Int.tmod (wrap64 (a0)) 8000) + (Int.tmod (wrap64 (a1)) 100)))))) = true then (caravanlaw2_SpansRead.j2 kj16 a4 (Int.tmod (wrap64 (a0)) 8000) (wrap64 ((Int.tmod (wrap64 (a0)) 8000) + (Int.tmod (wrap64 (a1)) 100))) (wrap64 ((wrap64 ((wrap64 ((Int.tmod (wrap64 (a0)) 8000) + (Int.tmod (wrap64 (a1)) 100))) + 2)) + (Int.tmod (wrap64 (a2)) 100))) x15_6 x16_16 true) else (if 1 < (t283.length : Int) then (caravanlaw2_SpansRead.j2 kj16 a4 (Int.tmod (wrap64 (a0)) 8000) (wrap64 ((Int.tmod (wrap64 (a0)) 8000) + (Int.tmod (wrap64 (a1)) 100))) (wrap64 ((wrap64 ((wrap64 ((Int.tmod (wrap64 (a0)) 8000) + (Int.tmod (wrap64 (a1)) 100))) + 2)) + (Int.tmod (wrap64 (a2)) 100))) x15_6 x16_16 (!(((rd_T31 t283 1).f0) == (wrap64 ((wrap64 ((wrap64 ((Int.tmod (wrap64 (a0)) 8000) + (Int.tmod (wrap64 (a1)) 100))) + 2)) + (Int.tmod (wrap64 (a2)) 100)))) || (!(((rd_T31 t283 1).f1) == (wrap64 ((wrap64 ((wrap64 ((wrap64 ((Int.tmod (wrap64 (a0)) 8000) + (Int.tmod (wrap64 (a1)) 100))) + 2)) + (Int.tmod (wrap64 (a2)) 100))) + (Int.tmod (wrap64 (a3)) 100))))))) else (none))) else (none)) else (caravanlaw2_SpansRead.j2 kj16 a4 (Int.tmod (wrap64 (a0)) 8000) (wrap64 ((Int.tmod (wrap64 (a0)) 8000) + (Int.tmod (wrap64 (a1)) 100))) (wrap64 ((wrap64 ((wrap64 ((Int.tmod (wrap64 (a0)) 8000) + (Int.tmod (wrap64 (a1)) 100))) + 2)) + (Int.tmod (wrap64 (a2)) 100))) x15_6 x16_16 true)) = some r := by rw [if_pos rfl] at H; exact H
         clear H
         have H := H1
         clear H1
         by_cases c28 : (t283.length : Int) = 2
         ·rw [if_pos c28] at H
          have c28b0 : ((t283.length : Int) == 2) = true := beq_iff_eq.mpr c28
          have c28b1 : ((t283.length : Int) != 2) = false := bne_eq_false_iff_eq.mpr c28
          clear c28
          (first | rw [c28b0] | (simp only [i64_w, i32_w]; rw [c28b0]) | skip)
          by_cases c29 : 0 < (t283.length : Int)
          ·rw [if_pos c29] at H
           have c29b0 : decide (0 < (t283.length : Int)) = true := decide_eq_true c29
           have c29b1 : decide (0 < t283.length) = true := decide_eq_true (by omega)
           clear c29
           by_cases c30 : (!(((rd_T31 t283 0).f0) == (Int.tmod (wrap64 (a0)) 8000)) || (!(((rd_T31 t283 0).f1) == (wrap64 ((Int.tmod (wrap64 (a0)) 8000) + (Int.tmod (wrap64 (a1)) 100)))))) = true
           ·rw [if_pos c30] at H
            have c30b0 : (!(((rd_T31 t283 0).f0) == (Int.tmod (wrap64 (a0)) 8000)) || (!(((rd_T31 t283 0).f1) == (wrap64 ((Int.tmod (wrap64 (a0)) 8000) + (Int.tmod (wrap64 (a1)) 100)))))) = true := c30
            clear c30
            have H' := Aside0.mk H
            clear H
            obtain ⟨Ao31, co31, eo31⟩ := Kd.R_slice HO286.out
            subst eo31
            have p287 : 0 ≤ (0 : Int) := (by omega)
            have q287 : 0 < (t283.length : Int) := of_decide_eq_true (by first | (with_reducible assumption) | assumption)
            obtain ⟨ad287, e287, hx287_0, hx287_1⟩ := at_T31 (Kd.R_reads' HO286.out).2.2 0 p287 q287
            cases e287
            have qi287 : (0 < t283.length) = True := eq_true (by omega)
            (try rw [show ((0 : Int)).toNat = 0 from rfl] at hx287_0)
            (try rw [show 0 * 2 = 0 from rfl] at hx287_0)
            (try rw [Addr.add_zero'] at hx287_0)
            (try rw [show ((0 : Int)).toNat = 0 from rfl] at hx287_1)
            (try rw [show 0 * 2 = 0 from rfl] at hx287_1)
            (try rw [Addr.add_zero'] at hx287_1)
            replace p287 := eq_true p287
            replace q287 := eq_true q287
            go_wp2
            go_meet
            case rel => exact ⟨_, (true), (by first | rfl | (simp; done) | (simp [*]; done)), H', ⟨by have := HJ6.out; have := HJ16.out; first | omega | exact Nat.le_refl _⟩, ⟨(qdb35_ HB.out)⟩⟩
           ·rw [if_neg c30] at H
            have c30b0 : (!(((rd_T31 t283 0).f0) == (Int.tmod (wrap64 (a0)) 8000)) || (!(((rd_T31 t283 0).f1) == (wrap64 ((Int.tmod (wrap64 (a0)) 8000) + (Int.tmod (wrap64 (a1)) 100)))))) = false := by simpa using c30
            clear c30
            by_cases c32 : 1 < (t283.length : Int)
            ·rw [if_pos c32] at H
             have c32b0 : decide (1 < (t283.length : Int)) = true := decide_eq_true c32
             have c32b1 : decide (1 < t283.length) = true := decide_eq_true (by omega)
             clear c32
             have H' := Aside0.mk H
             clear H
             obtain ⟨Ao33, co33, eo33⟩ := Kd.R_slice HO286.out
             subst eo33
             have p287 : 0 ≤ (0 : Int) := (by omega)
             have q287 : 0 < (t283.length : Int) := of_decide_eq_true (by first | (with_reducible assumption) | assumption)
             obtain ⟨ad287, e287, hx287_0, hx287_1⟩ := at_T31 (Kd.R_reads' HO286.out).2.2 0 p287 q287
             cases e287
             have qi287 : (0 < t283.length) = True := eq_true (by omega)
             (try rw [show ((0 : Int)).toNat = 0 from rfl] at hx287_0)
             (try rw [show 0 * 2 = 0 from rfl] at hx287_0)
             (try rw [Addr.add_zero'] at hx287_0)
             (try rw [show ((0 : Int)).toNat = 0 from rfl] at hx287_1)
             (try rw [show 0 * 2 = 0 from rfl] at hx287_1)
             (try rw [Addr.add_zero'] at hx287_1)
             replace p287 := eq_true p287
             replace q287 := eq_true q287
             have p288 : 0 ≤ (1 : Int) := (by omega)
             have q288 : 1 < (t283.length : Int) := of_decide_eq_true (by first | (with_reducible assumption) | assumption)
             obtain ⟨ad288, e288, hx288_0, hx288_1⟩ := at_T31 (Kd.R_reads' HO286.out).2.2 1 p288 q288
             obtain rfl : ad287 = ad288 := (by injection e288)
             (try simp only [show (1 : Int).toNat = 1 from rfl, Nat.reduceMul, Nat.reduceEqDiff, Go.Addr.add, ↓reduceIte] at hx288_0)
             (try simp only [show (1 : Int).toNat = 1 from rfl, Nat.reduceMul, Nat.reduceEqDiff, Go.Addr.add, ↓reduceIte] at hx288_1)
             have qi288 : (1 < t283.length) = True := eq_true (by omega)
             (try rw [show ((1 : Int)).toNat = 1 from rfl] at hx288_0)
             (try rw [show 1 * 2 = 2 from rfl] at hx288_0)
             (try rw [show ((1 : Int)).toNat = 1 from rfl] at hx288_1)
             (try rw [show 1 * 2 = 2 from rfl] at hx288_1)
             replace p288 := eq_true p288
             replace q288 := eq_true q288
             go_wp2
             go_meet
             case rel => exact ⟨_, ((!(((rd_T31 t283 1).f0) == (wrap64 ((wrap64 ((wrap64 ((Int.tmod (wrap64 (a0)) 8000) + (Int.tmod (wrap64 (a1)) 100))) + 2)) + (Int.tmod (wrap64 (a2)) 100)))) || (!(((rd_T31 t283 1).f1) == (wrap64 ((wrap64 ((wrap64 ((wrap64 ((Int.tmod (wrap64 (a0)) 8000) + (Int.tmod (wrap64 (a1)) 100))) + 2)) + (Int.tmod (wrap64 (a2)) 100))) + (Int.tmod (wrap64 (a3)) 100))))))), (by first | rfl | (simp; done) | (simp [*]; done)), H', ⟨by have := HJ6.out; have := HJ16.out; first | omega | exact Nat.le_refl _⟩, ⟨(qdb35_ HB.out)⟩⟩
            ·rw [if_neg c32] at H
             exact absurd H (by simp)
          ·rw [if_neg c29] at H
           exact absurd H (by simp)
         ·rw [if_neg c28] at H
          have c28b0 : ((t283.length : Int) == 2) = false := beq_eq_false_iff_ne.mpr c28
          have c28b1 : ((t283.length : Int) != 2) = true := bne_iff_ne.mpr c28
          (first | rw [c28b0] | (simp only [i64_w, i32_w]; rw [c28b0]) | skip)
          have H' := Aside0.mk H
          clear H
          obtain ⟨Ao34, co34, eo34⟩ := Kd.R_slice HO286.out
          subst eo34
          go_wp2
          go_meet
          case rel => exact ⟨_, (true), (by first | rfl | (simp; done) | (simp [*]; done)), H', ⟨by have := HJ6.out; have := HJ16.out; first | omega | exact Nat.le_refl _⟩, ⟨(qdb35_ HB.out)⟩⟩
        ·replace c27 := Bool.eq_false_iff.mpr c27
         subst c27
         have H1 : (caravanlaw2_SpansRead.j2 kj16 a4 (Int.tmod (wrap64 (a0)) 8000) (wrap64 ((Int.tmod (wrap64 (a0)) 8000) + (Int.tmod (wrap64 (a1)) 100))) (wrap64 ((wrap64 ((wrap64 ((Int.tmod (wrap64 (a0)) 8000) + (Int.tmod (wrap64 (a1)) 100))) + 2)) + (Int.tmod (wrap64 (a2)) 100))) x15_6 x16_16 true) = some r := by rw [if_neg (show ¬ (false = true) by decide)] at H; exact H
         clear H
         have H := H1
         clear H1
         have H' := Aside0.mk H
         clear H
         go_wp2
         go_meet
         case rel => exact ⟨_, (true), (by first | rfl | (simp; done) | (simp [*]; done)), H', ⟨by have := HJ6.out; have := HJ16.out; first | omega | exact Nat.le_refl _⟩, ⟨(qdb35_ HB.out)⟩⟩
       case rest =>
        clear HC25
        try clear c1
        try clear c2
        try clear p2
        try clear q2
        try clear hx2
        try clear qi2
        try clear c3
        try clear c4
        try clear p6
        try clear c9
        try clear c9b0
        try clear c10
        try clear c10b0
        try clear c10b1
        try clear c10b2
        try clear c12
        try clear c12b0
        try clear c12b1
        try clear c12b2
        try clear c13
        try clear c14
        try clear c14b0
        try clear c14b1
        try clear c14b2
        try clear c16
        try clear c16b0
        try clear c16b1
        try clear c16b2
        try clear c19
        try clear c19b0
        try clear c20
        try clear c20b0
        try clear c20b1
        try clear c20b2
        try clear c22
        try clear c22b0
        try clear c22b1
        try clear c22b2
        try clear c27
        try clear c28
        try clear c28b0
        try clear c28b1
        try clear p28
        try clear q28
        try clear hx28
        try clear qi28
        try clear c29
        try clear c29b0
        try clear c29b1
        try clear c30
        try clear c30b0
        try clear c32
        try clear c32b0
        try clear c32b1
        try clear hx287_0
        try clear hx287_1
        try clear hx288_0
        try clear hx288_1
        try clear p2
        try clear p287
        try clear p288
        try clear p6
        try clear q287
        try clear q288
        obtain ⟨kq, x93_24, rfl, HA, HJ24, HB⟩ := hcut
        cases kq with
        | zero => exact absurd HA.out (by simp [caravanlaw2_SpansRead.j2])
        | succ kj24 =>
         have H := HA.out
         clear HA
         simp only [caravanlaw2_SpansRead.j2] at H
         by_cases c35 : x93_24 = true
         ·subst c35
          have H1 : (some false) = some r := by rw [if_pos rfl] at H; exact H
          clear H
          have H := H1
          clear H1
          subst hrt_; exact absurd H (by simp)
         ·replace c35 := Bool.eq_false_iff.mpr c35
          subst c35
          have H1 : (if x16_16.size + 1 ≤ 9223372036854775807 then (if 1 + x16_16.size ≤ 9223372036854775807 then (if x15_6.size + 1 ≤ 9223372036854775807 then ((caravanref1_Digits.f kj24 (wrap64 ((wrap64 ((Int.tmod (wrap64 (a0)) 8000) + (Int.tmod (wrap64 (a1)) 100))) + 1))).bind fun t289 => (if (x15_6 ++ (⟨#[44]⟩ : ByteArray)).size + t289.size ≤ 9223372036854775807 then ((caravanref1_Digits.f kj24 (wrap64 ((wrap64 ((wrap64 ((Int.tmod (wrap64 (a0)) 8000) + (Int.tmod (wrap64 (a1)) 100))) + 2)) + (Int.tmod (wrap64 (a2)) 100)))).bind fun t290 => (if t290.size + 1 ≤ 9223372036854775807 then (if (t290 ++ (⟨#[44]⟩ : ByteArray)).size + x15_6.size ≤ 9223372036854775807 then (if (x15_6 ++ (⟨#[44]⟩ : ByteArray)).size + x15_6.size ≤ 9223372036854775807 then (if x15_6.size + 6 ≤ 9223372036854775807 then (if x15_6.size + 3 ≤ 9223372036854775807 then ((caravanref1_Digits.f kj24 (Int.tmod (wrap64 (a0)) 8000)).bind fun t291 => (if t291.size + 1 ≤ 9223372036854775807 then ((caravanref1_Digits.f kj24 (Int.tmod (wrap64 (a0)) 8000)).bind fun t292 => (if (t291 ++ (⟨#[45]⟩ : ByteArray)).size + t292.size ≤ 9223372036854775807 then ((some (([x16_16 ++ (⟨#[44]⟩ : ByteArray), (⟨#[44]⟩ : ByteArray) ++ x16_16, x16_16 ++ (⟨#[32]⟩ : ByteArray), (x15_6 ++ (⟨#[44]⟩ : ByteArray)) ++ t289, (t290 ++ (⟨#[44]⟩ : ByteArray)) ++ x15_6, (x15_6 ++ (⟨#[44]⟩ : ByteArray)) ++ x15_6, (⟨#[48]⟩ : ByteArray) ++ x16_16, x16_16 ++ (⟨#[45]⟩ : ByteArray), x15_6 ++ (⟨#[44, 49, 54, 51, 56, 52]⟩ : ByteArray), x15_6 ++ (⟨#[45, 45, 53]⟩ : ByteArray), (t291 ++ (⟨#[45]⟩ : ByteArray)) ++ t292, (⟨#[120]⟩ : ByteArray)] : List ByteArray) : List ByteArray)).bind fun y293 => (if (y293.length : Int) = 0 then (none) else (if 0 ≤ (Int.tmod (wrap64 (a4)) (y293.length : Int)) then (if (Int.tmod (wrap64 (a4)) (y293.length : Int)) < (y293.length : Int) then ((spans_Read.f (rdOf ByteArray.empty y293 (Int.tmod (wrap64 (a4)) (y293.length : Int)))).bind fun bt297 => (if bt297.2 = true then (some false) else (if (bt297.1.length : Int) = 0 then ((caravanlaw2_awake.f kj24).bind fun t301 => (some t301)) else (some false)))) else (none)) else (none)))) else (none))) else (none))) else (none)) else (none)) else (none)) else (none)) else (none))) else (none))) else (none)) else (none)) else (none)) = some r := by rw [if_neg (show ¬ (false = true) by decide)] at H; exact H
          clear H
          have H := H1
          clear H1
          by_cases c36 : x16_16.size + 1 ≤ 9223372036854775807
          ·rw [if_pos c36] at H
           have c36b0 := eq_true c36
           have c36b1 : decide (x16_16.size + 1 ≤ 9223372036854775807) = true := decide_eq_true c36
           try have c36b2 : (9223372036854775807 < x16_16.size + 1) = False := eq_false (Nat.not_lt.2 c36)
           by_cases c37 : 1 + x16_16.size ≤ 9223372036854775807
           ·rw [if_pos c37] at H
            have c37b0 := eq_true c37
            have c37b1 : decide (1 + x16_16.size ≤ 9223372036854775807) = true := decide_eq_true c37
            try have c37b2 : (9223372036854775807 < 1 + x16_16.size) = False := eq_false (Nat.not_lt.2 c37)
            by_cases c38 : x15_6.size + 1 ≤ 9223372036854775807
            ·rw [if_pos c38] at H
             have c38b0 := eq_true c38
             have c38b1 : decide (x15_6.size + 1 ≤ 9223372036854775807) = true := decide_eq_true c38
             try have c38b2 : (9223372036854775807 < x15_6.size + 1) = False := eq_false (Nat.not_lt.2 c38)
             replace H := Option.bind_eq_some_iff.mp H
             obtain ⟨t289, A390, H⟩ := H
             replace H : (if (x15_6 ++ (⟨#[44]⟩ : ByteArray)).size + t289.size ≤ 9223372036854775807 then ((caravanref1_Digits.f kj24 (wrap64 ((wrap64 ((wrap64 ((Int.tmod (wrap64 (a0)) 8000) + (Int.tmod (wrap64 (a1)) 100))) + 2)) + (Int.tmod (wrap64 (a2)) 100)))).bind fun t290 => (if t290.size + 1 ≤ 9223372036854775807 then (if (t290 ++ (⟨#[44]⟩ : ByteArray)).size + x15_6.size ≤ 9223372036854775807 then (if (x15_6 ++ (⟨#[44]⟩ : ByteArray)).size + x15_6.size ≤ 9223372036854775807 then (if x15_6.size + 6 ≤ 9223372036854775807 then (if x15_6.size + 3 ≤ 9223372036854775807 then ((caravanref1_Digits.f kj24 (Int.tmod (wrap64 (a0)) 8000)).bind fun t291 => (if t291.size + 1 ≤ 9223372036854775807 then ((caravanref1_Digits.f kj24 (Int.tmod (wrap64 (a0)) 8000)).bind fun t292 => (if (t291 ++ (⟨#[45]⟩ : ByteArray)).size + t292.size ≤ 9223372036854775807 then ((some (([x16_16 ++ (⟨#[44]⟩ : ByteArray), (⟨#[44]⟩ : ByteArray) ++ x16_16, x16_16 ++ (⟨#[32]⟩ : ByteArray), (x15_6 ++ (⟨#[44]⟩ : ByteArray)) ++ t289, (t290 ++ (⟨#[44]⟩ : ByteArray)) ++ x15_6, (x15_6 ++ (⟨#[44]⟩ : ByteArray)) ++ x15_6, (⟨#[48]⟩ : ByteArray) ++ x16_16, x16_16 ++ (⟨#[45]⟩ : ByteArray), x15_6 ++ (⟨#[44, 49, 54, 51, 56, 52]⟩ : ByteArray), x15_6 ++ (⟨#[45, 45, 53]⟩ : ByteArray), (t291 ++ (⟨#[45]⟩ : ByteArray)) ++ t292, (⟨#[120]⟩ : ByteArray)] : List ByteArray) : List ByteArray)).bind fun y293 => (if (y293.length : Int) = 0 then (none) else (if 0 ≤ (Int.tmod (wrap64 (a4)) (y293.length : Int)) then (if (Int.tmod (wrap64 (a4)) (y293.length : Int)) < (y293.length : Int) then ((spans_Read.f (rdOf ByteArray.empty y293 (Int.tmod (wrap64 (a4)) (y293.length : Int)))).bind fun bt297 => (if bt297.2 = true then (some false) else (if (bt297.1.length : Int) = 0 then ((caravanlaw2_awake.f kj24).bind fun t301 => (some t301)) else (some false)))) else (none)) else (none)))) else (none))) else (none))) else (none)) else (none)) else (none)) else (none)) else (none))) else (none)) = some r := H
             have A39 := Aside0.mk A390
             clear A390
             by_cases c40 : (x15_6 ++ (⟨#[44]⟩ : ByteArray)).size + t289.size ≤ 9223372036854775807
             ·rw [if_pos c40] at H
              have c40b0 := eq_true c40
              have c40b1 : decide ((x15_6 ++ (⟨#[44]⟩ : ByteArray)).size + t289.size ≤ 9223372036854775807) = true := decide_eq_true c40
              try have c40b2 : (9223372036854775807 < (x15_6 ++ (⟨#[44]⟩ : ByteArray)).size + t289.size) = False := eq_false (Nat.not_lt.2 c40)
              try (have c40b3 := c40b2; simp only [ByteArray.size_append] at c40b3)
              try (have c40b4 := c40b3; simp only [show (⟨#[44]⟩ : ByteArray).size = 1 from rfl] at c40b4)
              replace H := Option.bind_eq_some_iff.mp H
              obtain ⟨t290, A410, H⟩ := H
              replace H : (if t290.size + 1 ≤ 9223372036854775807 then (if (t290 ++ (⟨#[44]⟩ : ByteArray)).size + x15_6.size ≤ 9223372036854775807 then (if (x15_6 ++ (⟨#[44]⟩ : ByteArray)).size + x15_6.size ≤ 9223372036854775807 then (if x15_6.size + 6 ≤ 9223372036854775807 then (if x15_6.size + 3 ≤ 9223372036854775807 then ((caravanref1_Digits.f kj24 (Int.tmod (wrap64 (a0)) 8000)).bind fun t291 => (if t291.size + 1 ≤ 9223372036854775807 then ((caravanref1_Digits.f kj24 (Int.tmod (wrap64 (a0)) 8000)).bind fun t292 => (if (t291 ++ (⟨#[45]⟩ : ByteArray)).size + t292.size ≤ 9223372036854775807 then ((some (([x16_16 ++ (⟨#[44]⟩ : ByteArray), (⟨#[44]⟩ : ByteArray) ++ x16_16, x16_16 ++ (⟨#[32]⟩ : ByteArray), (x15_6 ++ (⟨#[44]⟩ : ByteArray)) ++ t289, (t290 ++ (⟨#[44]⟩ : ByteArray)) ++ x15_6, (x15_6 ++ (⟨#[44]⟩ : ByteArray)) ++ x15_6, (⟨#[48]⟩ : ByteArray) ++ x16_16, x16_16 ++ (⟨#[45]⟩ : ByteArray), x15_6 ++ (⟨#[44, 49, 54, 51, 56, 52]⟩ : ByteArray), x15_6 ++ (⟨#[45, 45, 53]⟩ : ByteArray), (t291 ++ (⟨#[45]⟩ : ByteArray)) ++ t292, (⟨#[120]⟩ : ByteArray)] : List ByteArray) : List ByteArray)).bind fun y293 => (if (y293.length : Int) = 0 then (none) else (if 0 ≤ (Int.tmod (wrap64 (a4)) (y293.length : Int)) then (if (Int.tmod (wrap64 (a4)) (y293.length : Int)) < (y293.length : Int) then ((spans_Read.f (rdOf ByteArray.empty y293 (Int.tmod (wrap64 (a4)) (y293.length : Int)))).bind fun bt297 => (if bt297.2 = true then (some false) else (if (bt297.1.length : Int) = 0 then ((caravanlaw2_awake.f kj24).bind fun t301 => (some t301)) else (some false)))) else (none)) else (none)))) else (none))) else (none))) else (none)) else (none)) else (none)) else (none)) else (none)) = some r := H
              have A41 := Aside0.mk A410
              clear A410
              by_cases c42 : t290.size + 1 ≤ 9223372036854775807
              ·rw [if_pos c42] at H
               have c42b0 := eq_true c42
               have c42b1 : decide (t290.size + 1 ≤ 9223372036854775807) = true := decide_eq_true c42
               try have c42b2 : (9223372036854775807 < t290.size + 1) = False := eq_false (Nat.not_lt.2 c42)
               by_cases c43 : (t290 ++ (⟨#[44]⟩ : ByteArray)).size + x15_6.size ≤ 9223372036854775807
               ·rw [if_pos c43] at H
                have c43b0 := eq_true c43
                have c43b1 : decide ((t290 ++ (⟨#[44]⟩ : ByteArray)).size + x15_6.size ≤ 9223372036854775807) = true := decide_eq_true c43
                try have c43b2 : (9223372036854775807 < (t290 ++ (⟨#[44]⟩ : ByteArray)).size + x15_6.size) = False := eq_false (Nat.not_lt.2 c43)
                try (have c43b3 := c43b2; simp only [ByteArray.size_append] at c43b3)
                try (have c43b4 := c43b3; simp only [show (⟨#[44]⟩ : ByteArray).size = 1 from rfl] at c43b4)
                by_cases c44 : (x15_6 ++ (⟨#[44]⟩ : ByteArray)).size + x15_6.size ≤ 9223372036854775807
                ·rw [if_pos c44] at H
                 have c44b0 := eq_true c44
                 have c44b1 : decide ((x15_6 ++ (⟨#[44]⟩ : ByteArray)).size + x15_6.size ≤ 9223372036854775807) = true := decide_eq_true c44
                 try have c44b2 : (9223372036854775807 < (x15_6 ++ (⟨#[44]⟩ : ByteArray)).size + x15_6.size) = False := eq_false (Nat.not_lt.2 c44)
                 try (have c44b3 := c44b2; simp only [ByteArray.size_append] at c44b3)
                 try (have c44b4 := c44b3; simp only [show (⟨#[44]⟩ : ByteArray).size = 1 from rfl] at c44b4)
                 by_cases c45 : x15_6.size + 6 ≤ 9223372036854775807
                 ·rw [if_pos c45] at H
                  have c45b0 := eq_true c45
                  have c45b1 : decide (x15_6.size + 6 ≤ 9223372036854775807) = true := decide_eq_true c45
                  try have c45b2 : (9223372036854775807 < x15_6.size + 6) = False := eq_false (Nat.not_lt.2 c45)
                  by_cases c46 : x15_6.size + 3 ≤ 9223372036854775807
                  ·rw [if_pos c46] at H
                   have c46b0 := eq_true c46
                   have c46b1 : decide (x15_6.size + 3 ≤ 9223372036854775807) = true := decide_eq_true c46
                   try have c46b2 : (9223372036854775807 < x15_6.size + 3) = False := eq_false (Nat.not_lt.2 c46)
                   replace H := Option.bind_eq_some_iff.mp H
                   obtain ⟨t291, A470, H⟩ := H
                   replace H : (if t291.size + 1 ≤ 9223372036854775807 then ((caravanref1_Digits.f kj24 (Int.tmod (wrap64 (a0)) 8000)).bind fun t292 => (if (t291 ++ (⟨#[45]⟩ : ByteArray)).size + t292.size ≤ 9223372036854775807 then ((some (([x16_16 ++ (⟨#[44]⟩ : ByteArray), (⟨#[44]⟩ : ByteArray) ++ x16_16, x16_16 ++ (⟨#[32]⟩ : ByteArray), (x15_6 ++ (⟨#[44]⟩ : ByteArray)) ++ t289, (t290 ++ (⟨#[44]⟩ : ByteArray)) ++ x15_6, (x15_6 ++ (⟨#[44]⟩ : ByteArray)) ++ x15_6, (⟨#[48]⟩ : ByteArray) ++ x16_16, x16_16 ++ (⟨#[45]⟩ : ByteArray), x15_6 ++ (⟨#[44, 49, 54, 51, 56, 52]⟩ : ByteArray), x15_6 ++ (⟨#[45, 45, 53]⟩ : ByteArray), (t291 ++ (⟨#[45]⟩ : ByteArray)) ++ t292, (⟨#[120]⟩ : ByteArray)] : List ByteArray) : List ByteArray)).bind fun y293 => (if (y293.length : Int) = 0 then (none) else (if 0 ≤ (Int.tmod (wrap64 (a4)) (y293.length : Int)) then (if (Int.tmod (wrap64 (a4)) (y293.length : Int)) < (y293.length : Int) then ((spans_Read.f (rdOf ByteArray.empty y293 (Int.tmod (wrap64 (a4)) (y293.length : Int)))).bind fun bt297 => (if bt297.2 = true then (some false) else (if (bt297.1.length : Int) = 0 then ((caravanlaw2_awake.f kj24).bind fun t301 => (some t301)) else (some false)))) else (none)) else (none)))) else (none))) else (none)) = some r := H
                   have A47 := Aside0.mk A470
                   clear A470
                   by_cases c48 : t291.size + 1 ≤ 9223372036854775807
                   ·rw [if_pos c48] at H
                    have c48b0 := eq_true c48
                    have c48b1 : decide (t291.size + 1 ≤ 9223372036854775807) = true := decide_eq_true c48
                    try have c48b2 : (9223372036854775807 < t291.size + 1) = False := eq_false (Nat.not_lt.2 c48)
                    replace H := Option.bind_eq_some_iff.mp H
                    obtain ⟨t292, A490, H⟩ := H
                    replace H : (if (t291 ++ (⟨#[45]⟩ : ByteArray)).size + t292.size ≤ 9223372036854775807 then ((some (([x16_16 ++ (⟨#[44]⟩ : ByteArray), (⟨#[44]⟩ : ByteArray) ++ x16_16, x16_16 ++ (⟨#[32]⟩ : ByteArray), (x15_6 ++ (⟨#[44]⟩ : ByteArray)) ++ t289, (t290 ++ (⟨#[44]⟩ : ByteArray)) ++ x15_6, (x15_6 ++ (⟨#[44]⟩ : ByteArray)) ++ x15_6, (⟨#[48]⟩ : ByteArray) ++ x16_16, x16_16 ++ (⟨#[45]⟩ : ByteArray), x15_6 ++ (⟨#[44, 49, 54, 51, 56, 52]⟩ : ByteArray), x15_6 ++ (⟨#[45, 45, 53]⟩ : ByteArray), (t291 ++ (⟨#[45]⟩ : ByteArray)) ++ t292, (⟨#[120]⟩ : ByteArray)] : List ByteArray) : List ByteArray)).bind fun y293 => (if (y293.length : Int) = 0 then (none) else (if 0 ≤ (Int.tmod (wrap64 (a4)) (y293.length : Int)) then (if (Int.tmod (wrap64 (a4)) (y293.length : Int)) < (y293.length : Int) then ((spans_Read.f (rdOf ByteArray.empty y293 (Int.tmod (wrap64 (a4)) (y293.length : Int)))).bind fun bt297 => (if bt297.2 = true then (some false) else (if (bt297.1.length : Int) = 0 then ((caravanlaw2_awake.f kj24).bind fun t301 => (some t301)) else (some false)))) else (none)) else (none)))) else (none)) = some r := H
                    have A49 := Aside0.mk A490
                    clear A490
                    by_cases c50 : (t291 ++ (⟨#[45]⟩ : ByteArray)).size + t292.size ≤ 9223372036854775807
                    ·rw [if_pos c50] at H
                     have c50b0 := eq_true c50
                     have c50b1 : decide ((t291 ++ (⟨#[45]⟩ : ByteArray)).size + t292.size ≤ 9223372036854775807) = true := decide_eq_true c50
                     try have c50b2 : (9223372036854775807 < (t291 ++ (⟨#[45]⟩ : ByteArray)).size + t292.size) = False := eq_false (Nat.not_lt.2 c50)
                     try (have c50b3 := c50b2; simp only [ByteArray.size_append] at c50b3)
                     try (have c50b4 := c50b3; simp only [show (⟨#[45]⟩ : ByteArray).size = 1 from rfl] at c50b4)
                     obtain ⟨y293, hy293⟩ : ∃ y_ : List ByteArray, y_ = (([x16_16 ++ (⟨#[44]⟩ : ByteArray), (⟨#[44]⟩ : ByteArray) ++ x16_16, x16_16 ++ (⟨#[32]⟩ : ByteArray), (x15_6 ++ (⟨#[44]⟩ : ByteArray)) ++ t289, (t290 ++ (⟨#[44]⟩ : ByteArray)) ++ x15_6, (x15_6 ++ (⟨#[44]⟩ : ByteArray)) ++ x15_6, (⟨#[48]⟩ : ByteArray) ++ x16_16, x16_16 ++ (⟨#[45]⟩ : ByteArray), x15_6 ++ (⟨#[44, 49, 54, 51, 56, 52]⟩ : ByteArray), x15_6 ++ (⟨#[45, 45, 53]⟩ : ByteArray), (t291 ++ (⟨#[45]⟩ : ByteArray)) ++ t292, (⟨#[120]⟩ : ByteArray)] : List ByteArray)) := ⟨_, rfl⟩
                     replace H : (if (y293.length : Int) = 0 then (none) else (if 0 ≤ (Int.tmod (wrap64 (a4)) (y293.length : Int)) then (if (Int.tmod (wrap64 (a4)) (y293.length : Int)) < (y293.length : Int) then ((spans_Read.f (rdOf ByteArray.empty y293 (Int.tmod (wrap64 (a4)) (y293.length : Int)))).bind fun bt297 => (if bt297.2 = true then (some false) else (if (bt297.1.length : Int) = 0 then ((caravanlaw2_awake.f kj24).bind fun t301 => (some t301)) else (some false)))) else (none)) else (none))) = some r := by first | (rw [hy293]; with_reducible exact H) | (have H2_ := (Option.bind_some _ _).symm.trans H; rw [hy293]; with_reducible exact H2_) | (have H2_ := (Option.bind_some _ _).symm.trans H; with_reducible exact H2_) | with_reducible exact H | (rw [hy293]; exact H) | exact H
                     have Ny293 := Aside0.mk hy293
                     clear hy293
                     by_cases c51 : (y293.length : Int) = 0
                     ·rw [if_pos c51] at H
                      exact absurd H (by simp)
                     ·rw [if_neg c51] at H
                      have c51b0 : ((y293.length : Int) == 0) = false := beq_eq_false_iff_ne.mpr c51
                      have c51b1 : ((y293.length : Int) != 0) = true := bne_iff_ne.mpr c51
                      have c51b2 : ¬ (y293 = []) := fun h_ => c51 (by rw [h_]; rfl)
                      obtain ⟨ji52, hji52⟩ : ∃ j_ : Int, (Int.tmod (wrap64 (a4)) (y293.length : Int)) = j_ := ⟨_, rfl⟩
                      replace H : (if 0 ≤ (ji52) then (if (ji52) < (y293.length : Int) then ((spans_Read.f (rdOf ByteArray.empty y293 (ji52))).bind fun bt297 => (if bt297.2 = true then (some false) else (if (bt297.1.length : Int) = 0 then ((caravanlaw2_awake.f kj24).bind fun t301 => (some t301)) else (some false)))) else (none)) else (none)) = some r := by first | (rw [hji52] at H; exact H) | (simp only [hji52] at H ⊢; exact H)
                      (try rw [hji52] at A39)
                      (try rw [hji52] at A41)
                      (try rw [hji52] at A47)
                      (try rw [hji52] at A49)
                      by_cases c53 : 0 ≤ (ji52)
                      ·rw [if_pos c53] at H
                       have c53b0 : decide (0 ≤ (ji52)) = true := decide_eq_true c53
                       clear c53
                       by_cases c54 : (ji52) < (y293.length : Int)
                       ·rw [if_pos c54] at H
                        have c54b0 : decide ((ji52) < (y293.length : Int)) = true := decide_eq_true c54
                        clear c54
                        replace H := Option.bind_eq_some_iff.mp H
                        obtain ⟨⟨t297, t298⟩, A550, H⟩ := H
                        replace H : (if t298 = true then (some false) else (if (t297.length : Int) = 0 then ((caravanlaw2_awake.f kj24).bind fun t301 => (some t301)) else (some false))) = some r := H
                        have A55 := Aside0.mk A550
                        clear A550
                        by_cases c56 : t298 = true
                        ·subst c56
                         have H1 : (some false) = some r := by rw [if_pos rfl] at H; exact H
                         clear H
                         have H := H1
                         clear H1
                         subst hrt_; exact absurd H (by simp)
                        ·replace c56 := Bool.eq_false_iff.mpr c56
                         subst c56
                         have H1 : (if (t297.length : Int) = 0 then ((caravanlaw2_awake.f kj24).bind fun t301 => (some t301)) else (some false)) = some r := by rw [if_neg (show ¬ (false = true) by decide)] at H; exact H
                         clear H
                         have H := H1
                         clear H1
                         by_cases c57 : (t297.length : Int) = 0
                         ·rw [if_pos c57] at H
                          have c57b0 : ((t297.length : Int) == 0) = true := beq_iff_eq.mpr c57
                          have c57b1 : ((t297.length : Int) != 0) = false := bne_eq_false_iff_eq.mpr c57
                          clear c57
                          replace H := Option.bind_eq_some_iff.mp H
                          obtain ⟨t301, A580, H⟩ := H
                          replace H : (some t301) = some r := H
                          have A58 := Aside0.mk A580
                          clear A580
                          obtain rfl := Option.some.inj H
                          go_wp2_with (first | ((with_reducible refine gate_callee (f := 13) rfl ?_); refine goesL_ (some 104) rfl rfl Tryd.func13 (by kernel_rfl) rfl #[.int .i64 (wrap64 ((wrap64 ((Int.tmod (wrap64 (a0)) 8000) + (Int.tmod (wrap64 (a1)) 100))) + 1))] rfl qM_ ?_; (with_reducible refine (caravanref1_Digits.calls kj24 (wrap64 ((wrap64 ((Int.tmod (wrap64 (a0)) 8000) + (Int.tmod (wrap64 (a1)) 100))) + 1)) t289 _ A39.out).mono ?_); rintro e w59 ⟨rfl, hb⟩; refine ⟨_, rfl, ?_⟩; have n0_ := Aside0.mk (below_step (qdb35_ HB.out) hb); clear HB; have HB := n0_; clear n0_; (try clear hb); (try clear hb2); (try clear hk); (try clear hi)) | ((with_reducible refine gate_callee (f := 13) rfl ?_); refine goesL_ (some 107) rfl rfl Tryd.func13 (by kernel_rfl) rfl #[.int .i64 (wrap64 ((wrap64 ((wrap64 ((Int.tmod (wrap64 (a0)) 8000) + (Int.tmod (wrap64 (a1)) 100))) + 2)) + (Int.tmod (wrap64 (a2)) 100)))] rfl qM_ ?_; (with_reducible refine (caravanref1_Digits.calls kj24 (wrap64 ((wrap64 ((wrap64 ((Int.tmod (wrap64 (a0)) 8000) + (Int.tmod (wrap64 (a1)) 100))) + 2)) + (Int.tmod (wrap64 (a2)) 100))) t290 _ A41.out).mono ?_); rintro e w60 ⟨rfl, hb⟩; refine ⟨_, rfl, ?_⟩; have n0_ := Aside0.mk (below_step (qdb35_ HB.out) hb); clear HB; have HB := n0_; clear n0_; (try clear hb); (try clear hb2); (try clear hk); (try clear hi)) | ((with_reducible refine gate_callee (f := 13) rfl ?_); refine goesL_ (some 124) rfl rfl Tryd.func13 (by kernel_rfl) rfl #[.int .i64 (Int.tmod (wrap64 (a0)) 8000)] rfl qM_ ?_; (with_reducible refine (caravanref1_Digits.calls kj24 (Int.tmod (wrap64 (a0)) 8000) t291 _ A47.out).mono ?_); rintro e w61 ⟨rfl, hb⟩; refine ⟨_, rfl, ?_⟩; have n0_ := Aside0.mk (below_step (qdb35_ HB.out) hb); clear HB; have HB := n0_; clear n0_; (try clear hb); (try clear hb2); (try clear hk); (try clear hi)) | ((with_reducible refine gate_callee (f := 13) rfl ?_); refine goesL_ (some 127) rfl rfl Tryd.func13 (by kernel_rfl) rfl #[.int .i64 (Int.tmod (wrap64 (a0)) 8000)] rfl qM_ ?_; (with_reducible refine (caravanref1_Digits.calls kj24 (Int.tmod (wrap64 (a0)) 8000) t292 _ A49.out).mono ?_); rintro e w62 ⟨rfl, hb⟩; refine ⟨_, rfl, ?_⟩; have n0_ := Aside0.mk (below_step (qdb35_ HB.out) hb); clear HB; have HB := n0_; clear n0_; (try clear hb); (try clear hb2); (try clear hk); (try clear hi)) | ((with_reducible refine gate_dst (N := 129) rfl ?_); (try (refine gate_guard (by rfl) ?_; dsimp only)); refine Kd.R_lit Kd.string _ 9 ?hg (N := 129) ?hd (xs := ([x16_16 ++ (⟨#[44]⟩ : ByteArray), (⟨#[44]⟩ : ByteArray) ++ x16_16, x16_16 ++ (⟨#[32]⟩ : ByteArray), (x15_6 ++ (⟨#[44]⟩ : ByteArray)) ++ t289, (t290 ++ (⟨#[44]⟩ : ByteArray)) ++ x15_6, (x15_6 ++ (⟨#[44]⟩ : ByteArray)) ++ x15_6, (⟨#[48]⟩ : ByteArray) ++ x16_16, x16_16 ++ (⟨#[45]⟩ : ByteArray), x15_6 ++ (⟨#[44, 49, 54, 51, 56, 52]⟩ : ByteArray), x15_6 ++ (⟨#[45, 45, 53]⟩ : ByteArray), (t291 ++ (⟨#[45]⟩ : ByteArray)) ++ t292, (⟨#[120]⟩ : ByteArray)] : List ByteArray)) (inner := [.string (x16_16 ++ (⟨#[44]⟩ : ByteArray)), .string ((⟨#[44]⟩ : ByteArray) ++ x16_16), .string (x16_16 ++ (⟨#[32]⟩ : ByteArray)), .string ((x15_6 ++ (⟨#[44]⟩ : ByteArray)) ++ t289), .string ((t290 ++ (⟨#[44]⟩ : ByteArray)) ++ x15_6), .string ((x15_6 ++ (⟨#[44]⟩ : ByteArray)) ++ x15_6), .string ((⟨#[48]⟩ : ByteArray) ++ x16_16), .string (x16_16 ++ (⟨#[45]⟩ : ByteArray)), .string (x15_6 ++ (⟨#[44, 49, 54, 51, 56, 52]⟩ : ByteArray)), .string (x15_6 ++ (⟨#[45, 45, 53]⟩ : ByteArray)), .string ((t291 ++ (⟨#[45]⟩ : ByteArray)) ++ t292), .string (⟨#[120]⟩ : ByteArray)]) (ok := fun _ => True) (okp := fun _ => True) ?hr ?hp (fun _ hk => hk) trivial (Below.refl _ _) (Nat.le_refl _) (by simp) ?_; (case hd => rfl); (case hg => rfl); (case hr => first | (go_simp; done) | (go_simp; rfl)); (case hp => exact (Reps.one (show Kd.M Kd.string _ _ _ (x16_16 ++ (⟨#[44]⟩ : ByteArray)) [.string (x16_16 ++ (⟨#[44]⟩ : ByteArray))] from rfl) (Reps.one (show Kd.M Kd.string _ _ _ ((⟨#[44]⟩ : ByteArray) ++ x16_16) [.string ((⟨#[44]⟩ : ByteArray) ++ x16_16)] from rfl) (Reps.one (show Kd.M Kd.string _ _ _ (x16_16 ++ (⟨#[32]⟩ : ByteArray)) [.string (x16_16 ++ (⟨#[32]⟩ : ByteArray))] from rfl) (Reps.one (show Kd.M Kd.string _ _ _ ((x15_6 ++ (⟨#[44]⟩ : ByteArray)) ++ t289) [.string ((x15_6 ++ (⟨#[44]⟩ : ByteArray)) ++ t289)] from rfl) (Reps.one (show Kd.M Kd.string _ _ _ ((t290 ++ (⟨#[44]⟩ : ByteArray)) ++ x15_6) [.string ((t290 ++ (⟨#[44]⟩ : ByteArray)) ++ x15_6)] from rfl) (Reps.one (show Kd.M Kd.string _ _ _ ((x15_6 ++ (⟨#[44]⟩ : ByteArray)) ++ x15_6) [.string ((x15_6 ++ (⟨#[44]⟩ : ByteArray)) ++ x15_6)] from rfl) (Reps.one (show Kd.M Kd.string _ _ _ ((⟨#[48]⟩ : ByteArray) ++ x16_16) [.string ((⟨#[48]⟩ : ByteArray) ++ x16_16)] from rfl) (Reps.one (show Kd.M Kd.string _ _ _ (x16_16 ++ (⟨#[45]⟩ : ByteArray)) [.string (x16_16 ++ (⟨#[45]⟩ : ByteArray))] from rfl) (Reps.one (show Kd.M Kd.string _ _ _ (x15_6 ++ (⟨#[44, 49, 54, 51, 56, 52]⟩ : ByteArray)) [.string (x15_6 ++ (⟨#[44, 49, 54, 51, 56, 52]⟩ : ByteArray))] from rfl) (Reps.one (show Kd.M Kd.string _ _ _ (x15_6 ++ (⟨#[45, 45, 53]⟩ : ByteArray)) [.string (x15_6 ++ (⟨#[45, 45, 53]⟩ : ByteArray))] from rfl) (Reps.one (show Kd.M Kd.string _ _ _ ((t291 ++ (⟨#[45]⟩ : ByteArray)) ++ t292) [.string ((t291 ++ (⟨#[45]⟩ : ByteArray)) ++ t292)] from rfl) (Reps.one (show Kd.M Kd.string _ _ _ (⟨#[120]⟩ : ByteArray) [.string (⟨#[120]⟩ : ByteArray)] from rfl) (Reps.none _ _)))))))))))))); intro v294 w63 ho64 hb hg_ hnew_; clear hg_ hnew_; (first | rw [← Ny293.out] at ho64 | (simp only [Int.reduceToNat] at ho64; rw [← Ny293.out] at ho64)); have n0_ := Aside0.mk (Kd.R_lower ho64 (below_size (qdb35_ HB.out))); have n1_ := Aside0.mk (below_step (qdb35_ HB.out) hb); clear HB; have HO295 := n0_; have HB := n1_; clear n0_ n1_; clear hb ho64; obtain ⟨Ao65, co65, eo65⟩ := Kd.R_slice HO295.out; subst eo65; have p296 : 0 ≤ ((ji52) : Int) := of_decide_eq_true (by first | (with_reducible assumption) | assumption); have q296 : (ji52) < (y293.length : Int) := of_decide_eq_true (by first | (with_reducible assumption) | assumption); obtain ⟨ad296, e296, hx296_0⟩ := Kd.at_string (Kd.R_reads' HO295.out).2.2 (ji52) p296 q296; cases e296; replace p296 := eq_true p296; replace q296 := eq_true q296) | ((with_reducible refine gate_callee (f := 10) rfl ?_); refine goesL_ (some 139) rfl rfl Tryd.func10 (by kernel_rfl) rfl #[.string (rdOf ByteArray.empty y293 (ji52))] rfl (by (try simp only [List.map_toArray, List.map_cons, List.map_nil]); first | done | (simp only [hji52]; rfl) | rfl | (simp only [List.length_drop, List.length_take]; rfl)) ?_; (with_reducible refine (spans_Read.calls (rdOf ByteArray.empty y293 (ji52)) t297 false _ A55.out (Wd.of hWd_ (qdb35_ HB.out))).mono ?_); rintro e w66 ⟨v299, rfl, ho0, hb⟩; refine ⟨_, rfl, ?_⟩; have n0_ := Aside0.mk (Kd.R_below (q8524_ HO295.out) hb); have n1_ := Aside0.mk (Kd.R_lower ho0 (below_size (qdb35_ HB.out))); have n2_ := Aside0.mk (below_step (qdb35_ HB.out) hb); clear HO295; clear HB; have HO295 := n0_; have HO300 := n1_; have HB := n2_; clear n0_ n1_ n2_; (try clear hb); (try clear hb2); (try clear hk); (try clear hi); (try clear ho0); obtain ⟨Ao67, co67, eo67⟩ := Kd.R_slice HO300.out; subst eo67) | (go_at_call 9; (with_reducible refine (caravanlaw2_awake.calls kj24  t301 _ A58.out (Wd.of hWd_ (qdb35_ HB.out))).mono ?_); rintro e w68 ⟨rfl, hb⟩; have n0_ := Aside0.mk (Kd.R_below (q8524_ HO295.out) hb); have n1_ := Aside0.mk (Kd.R_below (q8524_ HO300.out) hb); have n2_ := Aside0.mk (below_step (qdb35_ HB.out) hb); clear HO295; clear HO300; clear HB; have HO295 := n0_; have HO300 := n1_; have HB := n2_; clear n0_ n1_ n2_; (try clear hb); (try clear hb2); (try clear hk); (try clear hi)))
                          go_ret
                          exact ⟨by first | rfl | (simp [errW_none, errW_some] <;> rfl) | (simp only [← hji52]; first | rfl | (simp [errW_none, errW_some] <;> rfl)) | (simp [*, errW_none, errW_some] <;> rfl), (qdb35_ HB.out)⟩
                         ·rw [if_neg c57] at H
                          have c57b0 : ((t297.length : Int) == 0) = false := beq_eq_false_iff_ne.mpr c57
                          have c57b1 : ((t297.length : Int) != 0) = true := bne_iff_ne.mpr c57
                          have c57b2 : ¬ (t297 = []) := fun h_ => c57 (by rw [h_]; rfl)
                          subst hrt_; exact absurd H (by simp)
                       ·rw [if_neg c54] at H
                        exact absurd H (by simp)
                      ·rw [if_neg c53] at H
                       exact absurd H (by simp)
                    ·rw [if_neg c50] at H
                     exact absurd H (by simp)
                   ·rw [if_neg c48] at H
                    exact absurd H (by simp)
                  ·rw [if_neg c46] at H
                   exact absurd H (by simp)
                 ·rw [if_neg c45] at H
                  exact absurd H (by simp)
                ·rw [if_neg c44] at H
                 exact absurd H (by simp)
               ·rw [if_neg c43] at H
                exact absurd H (by simp)
              ·rw [if_neg c42] at H
               exact absurd H (by simp)
             ·rw [if_neg c40] at H
              exact absurd H (by simp)
            ·rw [if_neg c38] at H
             exact absurd H (by simp)
           ·rw [if_neg c37] at H
            exact absurd H (by simp)
          ·rw [if_neg c36] at H
           exact absurd H (by simp)
    ·rw [if_neg c16] at H
     exact absurd H (by simp)
   ·rw [if_neg c14] at H
    exact absurd H (by simp)

/-- THE ONE PURE STATEMENT of caravanlaw2_SpansRead: yours. -/
def caravanlaw2_SpansRead.Pure : Prop := ∀ (a0 : Int) (a1 : Int) (a2 : Int) (a3 : Int) (a4 : Int), (Lit.int .u16 a0).wf = true → (Lit.int .u16 a1).wf = true → (Lit.int .u16 a2).wf = true → (Lit.int .u16 a3).wf = true → (Lit.int .u8 a4).wf = true → ∃ k, caravanlaw2_SpansRead.f k a0 a1 a2 a3 a4 = some true
theorem caravanlaw2_SpansRead.walk (P : caravanlaw2_SpansRead.Pure) (a0 : Int) (a1 : Int) (a2 : Int) (a3 : Int) (a4 : Int) (w : World) (hWd_ : Wd w) (w0 : (Lit.int .u16 a0).wf = true) (w1 : (Lit.int .u16 a1).wf = true) (w2 : (Lit.int .u16 a2).wf = true) (w3 : (Lit.int .u16 a3).wf = true) (w4 : (Lit.int .u8 a4).wf = true) :
 Calls Tryd.prog 4 #[.int .u16 a0, .int .u16 a1, .int .u16 a2, .int .u16 a3, .int .u8 a4] w fun e w' => e = .returned (.bool true) ∧ Below w.heap.size w w' := by
 obtain ⟨k, h⟩ := P a0 a1 a2 a3 a4 w0 w1 w2 w3 w4
 refine (caravanlaw2_SpansRead.calls k a0 a1 a2 a3 a4 true w h rfl hWd_).mono ?_
 rintro e w' ⟨rfl, hd⟩
 exact ⟨rfl, hd⟩

end Go.Proofs.YtnlakdpfkgjdaaaDoor.G
