/- What functions of the translation come to, and their calls' proofs; by a program of mine over the kit's print, with contracts given by hand beside. Conditions: where a plain function tells none, nothing is said. -/
import Derived.Test.YtfmhhahhomnkbaaDoorG0
import Derived.Test.YtfmhhahhomnkbaaDoorG1
import Derived.Test.YtfmhhahhomnkbaaDoorGAdd
import Derived.Test.YtfmhhahhomnkbaaDoorGNumber
import Derived.Test.YtfmhhahhomnkbaaDoorGPut
import Derived.Test.YtfmhhahhomnkbaaDoorGPutR
namespace Go.Proofs.YtfmhhahhomnkbaaDoor.G
open Go.RowKit Go.Proofs.YtfmhhahhomnkbaaDoorW.PrintWords Go.Proofs.YtfmhhahhomnkbaaDoorW.PrintLast Go.Proofs.YtfmhhahhomnkbaaDoorW.PrintMore
attribute [local go_sem] max2_int min2_int max_two min_two max_three min_three max_four min_four   -- for this text's walks alone
set_option linter.unusedVariables false
set_option linter.unusedSimpArgs false

/-! ### caravanref5_Cut: function 21 -/
def caravanref5_Cut.f (a0 : Int) (a1 : Int) (a2 : Int) : Option (Int × Int) := if a1 < 0 then (if a2 < 0 then (some (mx 0 (wrap64 (a0 + a1)), mn (wrap64 (a0 + a2)) (wrap64 (a0 - 1)))) else (some (mx 0 (wrap64 (a0 + a1)), mn a2 (wrap64 (a0 - 1))))) else (if a2 < 0 then (some (a1, mn (wrap64 (a0 + a2)) (wrap64 (a0 - 1)))) else (some (a1, mn a2 (wrap64 (a0 - 1)))))
set_option maxHeartbeats 8000000 in
set_option maxRecDepth 100000 in
theorem caravanref5_Cut.calls (a0 : Int) (a1 : Int) (a2 : Int) (r1 : Int) (r2 : Int) (w : World) (h : caravanref5_Cut.f a0 a1 a2 = some (r1, r2)) :
 Calls Tryd.prog 21 #[.int .i64 a0, .int .i64 a1, .int .i64 a2] w fun e w' => e = .returned (.tuple #[.int .i64 r1, .int .i64 r2]) ∧ Below w.heap.size w w' := by
 have HB := Aside0.mk (Below.refl w.heap.size w)
 have H : (if a1 < 0 then (if a2 < 0 then (some (mx 0 (wrap64 (a0 + a1)), mn (wrap64 (a0 + a2)) (wrap64 (a0 - 1)))) else (some (mx 0 (wrap64 (a0 + a1)), mn a2 (wrap64 (a0 - 1))))) else (if a2 < 0 then (some (a1, mn (wrap64 (a0 + a2)) (wrap64 (a0 - 1)))) else (some (a1, mn a2 (wrap64 (a0 - 1)))))) = some (r1, r2) := h
 clear h
 by_cases c4 : a1 < 0
 ·rw [if_pos c4] at H
  have c4b0 : decide (a1 < 0) = true := decide_eq_true c4
  clear c4
  obtain ⟨ji5, hji5⟩ : ∃ j_ : Int, (mx 0 (wrap64 (a0 + a1))) = j_ := ⟨_, rfl⟩
  replace H : (if a2 < 0 then (some (ji5, mn (wrap64 (a0 + a2)) (wrap64 (a0 - 1)))) else (some (ji5, mn a2 (wrap64 (a0 - 1))))) = some (r1, r2) := by first | (rw [hji5] at H; exact H) | (simp only [hji5] at H ⊢; exact H)
  (try (have hji5l : 0 ≤ ji5 := by (rw [← hji5]; unfold mx; (repeat' split) <;> omega)))
  (try (have hji5m : 0 ≤ ji5 := by omega))
  have hji5_ : (if 0 < (wrap64 (a0 + a1)) then (wrap64 (a0 + a1)) else 0) = ji5 := hji5
  by_cases c6 : a2 < 0
  ·rw [if_pos c6] at H
   have c6b0 : decide (a2 < 0) = true := decide_eq_true c6
   clear c6
   obtain ⟨ji7, hji7⟩ : ∃ j_ : Int, (mn (wrap64 (a0 + a2)) (wrap64 (a0 - 1))) = j_ := ⟨_, rfl⟩
   replace H : (some (ji5, ji7)) = some (r1, r2) := by first | (rw [hji7] at H; exact H) | (simp only [hji7] at H ⊢; exact H)
   have hji7_ : (if (wrap64 (a0 - 1)) < (wrap64 (a0 + a2)) then (wrap64 (a0 - 1)) else (wrap64 (a0 + a2))) = ji7 := hji7
   simp only [Option.some.injEq, Prod.mk.injEq] at H
   obtain ⟨rfl, rfl⟩ := H
   go_enter Tryd.func21, Tryd.ntmps21
   go_wp2
   go_ret2
   exact ⟨by first | rfl | (simp [errW_none, errW_some] <;> rfl) | (simp only [← hji5, ← hji7]; first | rfl | (simp [errW_none, errW_some] <;> rfl)) | (simp [*, errW_none, errW_some] <;> rfl), (qdb35_ HB.out)⟩
  ·rw [if_neg c6] at H
   have c6b0 : decide (a2 < 0) = false := decide_eq_false c6
   clear c6
   obtain ⟨ji8, hji8⟩ : ∃ j_ : Int, (mn a2 (wrap64 (a0 - 1))) = j_ := ⟨_, rfl⟩
   replace H : (some (ji5, ji8)) = some (r1, r2) := by first | (rw [hji8] at H; exact H) | (simp only [hji8] at H ⊢; exact H)
   have hji8_ : (if (wrap64 (a0 - 1)) < a2 then (wrap64 (a0 - 1)) else a2) = ji8 := hji8
   simp only [Option.some.injEq, Prod.mk.injEq] at H
   obtain ⟨rfl, rfl⟩ := H
   go_enter Tryd.func21, Tryd.ntmps21
   go_wp2
   go_ret2
   exact ⟨by first | rfl | (simp [errW_none, errW_some] <;> rfl) | (simp only [← hji5, ← hji8]; first | rfl | (simp [errW_none, errW_some] <;> rfl)) | (simp [*, errW_none, errW_some] <;> rfl), (qdb35_ HB.out)⟩
 ·rw [if_neg c4] at H
  have c4b0 : decide (a1 < 0) = false := decide_eq_false c4
  clear c4
  by_cases c9 : a2 < 0
  ·rw [if_pos c9] at H
   have c9b0 : decide (a2 < 0) = true := decide_eq_true c9
   clear c9
   obtain ⟨ji10, hji10⟩ : ∃ j_ : Int, (mn (wrap64 (a0 + a2)) (wrap64 (a0 - 1))) = j_ := ⟨_, rfl⟩
   replace H : (some (a1, ji10)) = some (r1, r2) := by first | (rw [hji10] at H; exact H) | (simp only [hji10] at H ⊢; exact H)
   have hji10_ : (if (wrap64 (a0 - 1)) < (wrap64 (a0 + a2)) then (wrap64 (a0 - 1)) else (wrap64 (a0 + a2))) = ji10 := hji10
   simp only [Option.some.injEq, Prod.mk.injEq] at H
   obtain ⟨rfl, rfl⟩ := H
   go_enter Tryd.func21, Tryd.ntmps21
   go_wp2
   go_ret2
   exact ⟨by first | rfl | (simp [errW_none, errW_some] <;> rfl) | (simp only [← hji10]; first | rfl | (simp [errW_none, errW_some] <;> rfl)) | (simp [*, errW_none, errW_some] <;> rfl), (qdb35_ HB.out)⟩
  ·rw [if_neg c9] at H
   have c9b0 : decide (a2 < 0) = false := decide_eq_false c9
   clear c9
   obtain ⟨ji11, hji11⟩ : ∃ j_ : Int, (mn a2 (wrap64 (a0 - 1))) = j_ := ⟨_, rfl⟩
   replace H : (some (a1, ji11)) = some (r1, r2) := by first | (rw [hji11] at H; exact H) | (simp only [hji11] at H ⊢; exact H)
   have hji11_ : (if (wrap64 (a0 - 1)) < a2 then (wrap64 (a0 - 1)) else a2) = ji11 := hji11
   simp only [Option.some.injEq, Prod.mk.injEq] at H
   obtain ⟨rfl, rfl⟩ := H
   go_enter Tryd.func21, Tryd.ntmps21
   go_wp2
   go_ret2
   exact ⟨by first | rfl | (simp [errW_none, errW_some] <;> rfl) | (simp only [← hji11]; first | rfl | (simp [errW_none, errW_some] <;> rfl)) | (simp [*, errW_none, errW_some] <;> rfl), (qdb35_ HB.out)⟩

/-! ### caravanref5_Sub: function 16 -/
def caravanref5_Sub.f (a0 : ByteArray) (a1 : Int) (a2 : Int) : Option (ByteArray) := (caravanref5_Cut.f (a0.size : Int) a1 a2).bind fun bt155 => (if bt155.1 > bt155.2 then (some (⟨#[]⟩ : ByteArray)) else (if 0 ≤ bt155.1 then (if bt155.1 ≤ (wrap64 (bt155.2 + 1)) then (if (wrap64 (bt155.2 + 1)) ≤ (a0.size : Int) then (some (a0.extract (bt155.1 : Int).toNat ((wrap64 (bt155.2 + 1)) : Int).toNat)) else (none)) else (none)) else (none)))
set_option maxHeartbeats 8000000 in
set_option maxRecDepth 100000 in
theorem caravanref5_Sub.calls (a0 : ByteArray) (a1 : Int) (a2 : Int) (r : ByteArray) (w : World) (h : caravanref5_Sub.f a0 a1 a2 = some r) :
 Calls Tryd.prog 16 #[.string a0, .int .i64 a1, .int .i64 a2] w fun e w' => e = .returned (.string r) ∧ Below w.heap.size w w' := by
 have HB := Aside0.mk (Below.refl w.heap.size w)
 have H : ((caravanref5_Cut.f (a0.size : Int) a1 a2).bind fun bt155 => (if bt155.1 > bt155.2 then (some (⟨#[]⟩ : ByteArray)) else (if 0 ≤ bt155.1 then (if bt155.1 ≤ (wrap64 (bt155.2 + 1)) then (if (wrap64 (bt155.2 + 1)) ≤ (a0.size : Int) then (some (a0.extract (bt155.1 : Int).toNat ((wrap64 (bt155.2 + 1)) : Int).toNat)) else (none)) else (none)) else (none)))) = some r := h
 clear h
 replace H := Option.bind_eq_some_iff.mp H
 obtain ⟨⟨t155, t156⟩, A40, H⟩ := H
 replace H : (if t155 > t156 then (some (⟨#[]⟩ : ByteArray)) else (if 0 ≤ t155 then (if t155 ≤ (wrap64 (t156 + 1)) then (if (wrap64 (t156 + 1)) ≤ (a0.size : Int) then (some (a0.extract (t155 : Int).toNat ((wrap64 (t156 + 1)) : Int).toNat)) else (none)) else (none)) else (none))) = some r := H
 have A4 := Aside0.mk A40
 clear A40
 by_cases c5 : t155 > t156
 ·rw [if_pos c5] at H
  have c5b0 : decide (t156 < t155) = true := decide_eq_true c5
  clear c5
  obtain rfl := Option.some.inj H
  go_enter Tryd.func16, Tryd.ntmps16
  go_wp2_with (first | ((with_reducible refine gate_callee (f := 21) rfl ?_); refine goesL_ (some 14) rfl rfl Tryd.func21 (by kernel_rfl) rfl #[.int .i64 (a0.size : Int), .int .i64 a1, .int .i64 a2] rfl qM_ ?_; (with_reducible refine (caravanref5_Cut.calls (a0.size : Int) a1 a2 t155 t156 _ A4.out).mono ?_); rintro e w6 ⟨rfl, hb⟩; refine ⟨_, rfl, ?_⟩; have n0_ := Aside0.mk (below_step (qdb35_ HB.out) hb); clear HB; have HB := n0_; clear n0_; (try clear hb); (try clear hb2); (try clear hk); (try clear hi)))
  go_ret
  exact ⟨by first | rfl | (simp [errW_none, errW_some] <;> rfl) | (simp [*, errW_none, errW_some] <;> rfl), (qdb35_ HB.out)⟩
 ·rw [if_neg c5] at H
  have c5b0 : decide (t156 < t155) = false := decide_eq_false c5
  clear c5
  by_cases c7 : 0 ≤ t155
  ·rw [if_pos c7] at H
   have c7b0 := eq_true c7
   have c7b1 : decide (0 ≤ t155) = true := decide_eq_true c7
   clear c7
   by_cases c8 : t155 ≤ (wrap64 (t156 + 1))
   ·rw [if_pos c8] at H
    have c8b0 := eq_true c8
    have c8b1 : decide (t155 ≤ (wrap64 (t156 + 1))) = true := decide_eq_true c8
    by_cases c9 : (wrap64 (t156 + 1)) ≤ (a0.size : Int)
    ·rw [if_pos c9] at H
     have c9b0 := eq_true c9
     have c9b1 : decide ((wrap64 (t156 + 1)) ≤ (a0.size : Int)) = true := decide_eq_true c9
     obtain rfl := Option.some.inj H
     go_enter Tryd.func16, Tryd.ntmps16
     go_wp2_with (first | ((with_reducible refine gate_callee (f := 21) rfl ?_); refine goesL_ (some 14) rfl rfl Tryd.func21 (by kernel_rfl) rfl #[.int .i64 (a0.size : Int), .int .i64 a1, .int .i64 a2] rfl qM_ ?_; (with_reducible refine (caravanref5_Cut.calls (a0.size : Int) a1 a2 t155 t156 _ A4.out).mono ?_); rintro e w10 ⟨rfl, hb⟩; refine ⟨_, rfl, ?_⟩; have n0_ := Aside0.mk (below_step (qdb35_ HB.out) hb); clear HB; have HB := n0_; clear n0_; (try clear hb); (try clear hb2); (try clear hk); (try clear hi)))
     go_ret
     exact ⟨by first | rfl | (simp [errW_none, errW_some] <;> rfl) | (simp [*, errW_none, errW_some] <;> rfl), (qdb35_ HB.out)⟩
    ·rw [if_neg c9] at H
     exact absurd H (by simp)
   ·rw [if_neg c8] at H
    exact absurd H (by simp)
  ·rw [if_neg c7] at H
   exact absurd H (by simp)

/-! ### caravanlaw6_TextAll: function 6 -/
def caravanlaw6_TextAll.j0 : Nat → ByteArray → Int → Int → ByteArray → Bool → Option (Bool)
 | 0, _, _, _, _, _ => none
 | k + 1, x0, x1, x2, x3, x25 => if x25 = true then ((caravanlaw6_awake.f k).bind fun t157 => (some t157)) else ((text_Number.f x0).bind fun bt158 => ((caravanref5_Number.f k x0).bind fun bt160 => ((text_Put.f x0 x1 x3).bind fun bt163 => ((caravanref5_Put.f x0 x1 x3).bind fun bt165 => ((text_Add.f x0 x1).bind fun bt168 => ((caravanref5_Add.f k x0 x1).bind fun bt170 => (if bt158.1 = bt160.1 then (if (bt158.2 == bt160.2) = true then ((text_Sub.f k x0 x1 x2).bind fun t173 => ((caravanref5_Sub.f x0 x1 x2).bind fun t174 => (if t173.toList = t174.toList then (if bt163.1.toList = bt165.1.toList then (if (bt163.2 == bt165.2) = true then (if bt168.1.toList = bt170.1.toList then (if (bt168.2 == bt170.2) = true then ((caravanlaw6_awake.f k).bind fun t175 => (some t175)) else (some false)) else (some false)) else (some false)) else (some false)) else (some false)))) else (some false)) else (some false))))))))
def caravanlaw6_TextAll.f (k : Nat) (a0 : ByteArray) (a1 : Int) (a2 : Int) (a3 : ByteArray) : Option (Bool) := if (a0.size : Int) > 700 then (caravanlaw6_TextAll.j0 k a0 a1 a2 a3 true) else (caravanlaw6_TextAll.j0 k a0 a1 a2 a3 (decide ((a3.size : Int) > 700)))
theorem caravanlaw6_TextAll.mono_l : ∀ k, (∀ y0 y1 y2 y3 y4, LeO (caravanlaw6_TextAll.j0 k y0 y1 y2 y3 y4) (caravanlaw6_TextAll.j0 (k + 1) y0 y1 y2 y3 y4))
 | 0 => fun _ _ _ _ _ r h => by simp [caravanlaw6_TextAll.j0] at h
 | k + 1 => by
  have ih0 := caravanlaw6_TextAll.mono_l k
  ·intro y0 y1 y2 y3 y4
   unfold caravanlaw6_TextAll.j0
   repeat' first
   | (with_reducible exact ih0 _ _ _ _ _)
   | (with_reducible exact caravanlaw6_awake.mono _)
   | (with_reducible exact caravanref5_Add.mono _ _ _)
   | (with_reducible exact caravanref5_Number.mono _ _)
   | (with_reducible exact text_Sub.mono _ _ _ _)
   | (with_reducible exact LeO.refl _)
   | (with_reducible exact LeO.none _)
   | (with_reducible refine LeO.ite ?_ ?_)
   | (with_reducible refine LeO.bind ?_ (fun _ => ?_))
   | exact ih0 _ _ _ _ _
   | exact caravanlaw6_awake.mono _
   | exact caravanref5_Add.mono _ _ _
   | exact caravanref5_Number.mono _ _
   | exact text_Sub.mono _ _ _ _
   | exact LeO.none _
   | refine LeO.ite ?_ ?_
   | refine LeO.bind ?_ (fun _ => ?_)
theorem caravanlaw6_TextAll.mono : ∀ a0 a1 a2 a3 k, LeO (caravanlaw6_TextAll.f k a0 a1 a2 a3) (caravanlaw6_TextAll.f (k + 1) a0 a1 a2 a3) := by
 intro a0 a1 a2 a3 k
 have ih0 := caravanlaw6_TextAll.mono_l k
 unfold caravanlaw6_TextAll.f
 repeat' first
  | (with_reducible exact ih0 _ _ _ _ _)
  | (with_reducible exact caravanlaw6_awake.mono _)
  | (with_reducible exact caravanref5_Add.mono _ _ _)
  | (with_reducible exact caravanref5_Number.mono _ _)
  | (with_reducible exact text_Sub.mono _ _ _ _)
  | (with_reducible exact LeO.refl _)
  | (with_reducible exact LeO.none _)
  | (with_reducible refine LeO.ite ?_ ?_)
  | (with_reducible refine LeO.bind ?_ (fun _ => ?_))
  | exact ih0 _ _ _ _ _
  | exact caravanlaw6_awake.mono _
  | exact caravanref5_Add.mono _ _ _
  | exact caravanref5_Number.mono _ _
  | exact text_Sub.mono _ _ _ _
  | exact LeO.none _
  | refine LeO.ite ?_ ?_
  | refine LeO.bind ?_ (fun _ => ?_)
set_option maxHeartbeats 8000000 in
set_option maxRecDepth 100000 in
theorem caravanlaw6_TextAll.calls (k : Nat) (a0 : ByteArray) (a1 : Int) (a2 : Int) (a3 : ByteArray) (r : Bool) (w : World) (h : caravanlaw6_TextAll.f k a0 a1 a2 a3 = some r) (hrt_ : r = true) (hWd_ : Wd w) :
 Calls Tryd.prog 6 #[.string a0, .int .i64 a1, .int .i64 a2, .string a3] w fun e w' => e = .returned (.bool r) ∧ Below w.heap.size w w' := by
 have hu33 := Tryd.underlying33
 have hu37 := Tryd.underlying37
 have HB := Aside0.mk (Below.refl w.heap.size w)
 have H : (if (a0.size : Int) > 700 then (caravanlaw6_TextAll.j0 k a0 a1 a2 a3 true) else (caravanlaw6_TextAll.j0 k a0 a1 a2 a3 (decide ((a3.size : Int) > 700)))) = some r := h
 clear h
 have HC5 := Aside0.mk H
 clear H
 go_enter Tryd.func6, Tryd.ntmps6
 go_upto_region 1 with (fail)
 go_cut [25] (fun v25 wc => ∃ (kq : Nat) (x25_4 : Bool), v25 = .bool x25_4 ∧ Aside0 (caravanlaw6_TextAll.j0 kq a0 a1 a2 a3 x25_4 = some r) ∧ Aside0 (kq ≤ k) ∧ Aside0 (Below w.heap.size w wc))
 case first =>
  have H := HC5.out
  clear HC5
  by_cases c6 : (a0.size : Int) > 700
  ·rw [if_pos c6] at H
   have c6b0 : decide (700 < (a0.size : Int)) = true := decide_eq_true c6
   have c6b1 : decide (700 < a0.size) = true := decide_eq_true (by omega)
   clear c6
   (first | rw [c6b0] | (simp only [i64_w, i32_w]; rw [c6b0]) | skip)
   have H' := Aside0.mk H
   clear H
   go_wp2
   go_meet
   case rel => exact ⟨_, (true), (by first | rfl | (simp; done) | (simp [*]; done)), H', ⟨by first | omega | exact Nat.le_refl _⟩, ⟨(qdb35_ HB.out)⟩⟩
  ·rw [if_neg c6] at H
   have c6b0 : decide (700 < (a0.size : Int)) = false := decide_eq_false c6
   have c6b1 : decide (700 < a0.size) = false := decide_eq_false (by omega)
   clear c6
   (first | rw [c6b0] | (simp only [i64_w, i32_w]; rw [c6b0]) | skip)
   have H' := Aside0.mk H
   clear H
   go_wp2
   go_meet
   case rel => exact ⟨_, (decide ((a3.size : Int) > 700)), (by first | rfl | (simp; done) | (simp [*]; done)), H', ⟨by first | omega | exact Nat.le_refl _⟩, ⟨(qdb35_ HB.out)⟩⟩
 case rest =>
  clear HC5
  try clear p2
  try clear c6
  try clear c6b0
  try clear c6b1
  obtain ⟨kq, x25_4, rfl, HA, HJ4, HB⟩ := hcut
  cases kq with
  | zero => exact absurd HA.out (by simp [caravanlaw6_TextAll.j0])
  | succ kj4 =>
   have H := HA.out
   clear HA
   simp only [caravanlaw6_TextAll.j0] at H
   by_cases c7 : x25_4 = true
   ·subst c7
    have H1 : ((caravanlaw6_awake.f kj4).bind fun t157 => (some t157)) = some r := by rw [if_pos rfl] at H; exact H
    clear H
    have H := H1
    clear H1
    replace H := Option.bind_eq_some_iff.mp H
    obtain ⟨t157, A80, H⟩ := H
    replace H : (some t157) = some r := H
    have A8 := Aside0.mk A80
    clear A80
    obtain rfl := Option.some.inj H
    go_wp2_with (first | ((with_reducible refine gate_callee (f := 9) rfl ?_); refine goesL_ (some 26) rfl rfl Tryd.func9 (by kernel_rfl) rfl #[] rfl qM_ ?_; (with_reducible refine (caravanlaw6_awake.calls kj4  t157 _ A8.out).mono ?_); rintro e w9 ⟨rfl, hb⟩; refine ⟨_, rfl, ?_⟩; have n0_ := Aside0.mk (below_step (qdb35_ HB.out) hb); clear HB; have HB := n0_; clear n0_; (try clear hb); (try clear hb2); (try clear hk); (try clear hi)))
    go_ret
    exact ⟨by first | rfl | (simp [errW_none, errW_some] <;> rfl) | (simp [*, errW_none, errW_some] <;> rfl), (qdb35_ HB.out)⟩
   ·replace c7 := Bool.eq_false_iff.mpr c7
    subst c7
    have H1 : ((text_Number.f a0).bind fun bt158 => ((caravanref5_Number.f kj4 a0).bind fun bt160 => ((text_Put.f a0 a1 a3).bind fun bt163 => ((caravanref5_Put.f a0 a1 a3).bind fun bt165 => ((text_Add.f a0 a1).bind fun bt168 => ((caravanref5_Add.f kj4 a0 a1).bind fun bt170 => (if bt158.1 = bt160.1 then (if (bt158.2 == bt160.2) = true then ((text_Sub.f kj4 a0 a1 a2).bind fun t173 => ((caravanref5_Sub.f a0 a1 a2).bind fun t174 => (if t173.toList = t174.toList then (if bt163.1.toList = bt165.1.toList then (if (bt163.2 == bt165.2) = true then (if bt168.1.toList = bt170.1.toList then (if (bt168.2 == bt170.2) = true then ((caravanlaw6_awake.f kj4).bind fun t175 => (some t175)) else (some false)) else (some false)) else (some false)) else (some false)) else (some false)))) else (some false)) else (some false)))))))) = some r := by rw [if_neg (show ¬ (false = true) by decide)] at H; exact H
    clear H
    have H := H1
    clear H1
    replace H := Option.bind_eq_some_iff.mp H
    obtain ⟨⟨t158, t159⟩, A100, H⟩ := H
    replace H : ((caravanref5_Number.f kj4 a0).bind fun bt160 => ((text_Put.f a0 a1 a3).bind fun bt163 => ((caravanref5_Put.f a0 a1 a3).bind fun bt165 => ((text_Add.f a0 a1).bind fun bt168 => ((caravanref5_Add.f kj4 a0 a1).bind fun bt170 => (if t158 = bt160.1 then (if (t159 == bt160.2) = true then ((text_Sub.f kj4 a0 a1 a2).bind fun t173 => ((caravanref5_Sub.f a0 a1 a2).bind fun t174 => (if t173.toList = t174.toList then (if bt163.1.toList = bt165.1.toList then (if (bt163.2 == bt165.2) = true then (if bt168.1.toList = bt170.1.toList then (if (bt168.2 == bt170.2) = true then ((caravanlaw6_awake.f kj4).bind fun t175 => (some t175)) else (some false)) else (some false)) else (some false)) else (some false)) else (some false)))) else (some false)) else (some false))))))) = some r := H
    have A10 := Aside0.mk A100
    clear A100
    replace H := Option.bind_eq_some_iff.mp H
    obtain ⟨⟨t160, t161⟩, A110, H⟩ := H
    replace H : ((text_Put.f a0 a1 a3).bind fun bt163 => ((caravanref5_Put.f a0 a1 a3).bind fun bt165 => ((text_Add.f a0 a1).bind fun bt168 => ((caravanref5_Add.f kj4 a0 a1).bind fun bt170 => (if t158 = t160 then (if (t159 == t161) = true then ((text_Sub.f kj4 a0 a1 a2).bind fun t173 => ((caravanref5_Sub.f a0 a1 a2).bind fun t174 => (if t173.toList = t174.toList then (if bt163.1.toList = bt165.1.toList then (if (bt163.2 == bt165.2) = true then (if bt168.1.toList = bt170.1.toList then (if (bt168.2 == bt170.2) = true then ((caravanlaw6_awake.f kj4).bind fun t175 => (some t175)) else (some false)) else (some false)) else (some false)) else (some false)) else (some false)))) else (some false)) else (some false)))))) = some r := H
    have A11 := Aside0.mk A110
    clear A110
    replace H := Option.bind_eq_some_iff.mp H
    obtain ⟨⟨t163, t164⟩, A120, H⟩ := H
    replace H : ((caravanref5_Put.f a0 a1 a3).bind fun bt165 => ((text_Add.f a0 a1).bind fun bt168 => ((caravanref5_Add.f kj4 a0 a1).bind fun bt170 => (if t158 = t160 then (if (t159 == t161) = true then ((text_Sub.f kj4 a0 a1 a2).bind fun t173 => ((caravanref5_Sub.f a0 a1 a2).bind fun t174 => (if t173.toList = t174.toList then (if t163.toList = bt165.1.toList then (if (t164 == bt165.2) = true then (if bt168.1.toList = bt170.1.toList then (if (bt168.2 == bt170.2) = true then ((caravanlaw6_awake.f kj4).bind fun t175 => (some t175)) else (some false)) else (some false)) else (some false)) else (some false)) else (some false)))) else (some false)) else (some false))))) = some r := H
    have A12 := Aside0.mk A120
    clear A120
    replace H := Option.bind_eq_some_iff.mp H
    obtain ⟨⟨t165, t166⟩, A130, H⟩ := H
    replace H : ((text_Add.f a0 a1).bind fun bt168 => ((caravanref5_Add.f kj4 a0 a1).bind fun bt170 => (if t158 = t160 then (if (t159 == t161) = true then ((text_Sub.f kj4 a0 a1 a2).bind fun t173 => ((caravanref5_Sub.f a0 a1 a2).bind fun t174 => (if t173.toList = t174.toList then (if t163.toList = t165.toList then (if (t164 == t166) = true then (if bt168.1.toList = bt170.1.toList then (if (bt168.2 == bt170.2) = true then ((caravanlaw6_awake.f kj4).bind fun t175 => (some t175)) else (some false)) else (some false)) else (some false)) else (some false)) else (some false)))) else (some false)) else (some false)))) = some r := H
    have A13 := Aside0.mk A130
    clear A130
    replace H := Option.bind_eq_some_iff.mp H
    obtain ⟨⟨t168, t169⟩, A140, H⟩ := H
    replace H : ((caravanref5_Add.f kj4 a0 a1).bind fun bt170 => (if t158 = t160 then (if (t159 == t161) = true then ((text_Sub.f kj4 a0 a1 a2).bind fun t173 => ((caravanref5_Sub.f a0 a1 a2).bind fun t174 => (if t173.toList = t174.toList then (if t163.toList = t165.toList then (if (t164 == t166) = true then (if t168.toList = bt170.1.toList then (if (t169 == bt170.2) = true then ((caravanlaw6_awake.f kj4).bind fun t175 => (some t175)) else (some false)) else (some false)) else (some false)) else (some false)) else (some false)))) else (some false)) else (some false))) = some r := H
    have A14 := Aside0.mk A140
    clear A140
    replace H := Option.bind_eq_some_iff.mp H
    obtain ⟨⟨t170, t171⟩, A150, H⟩ := H
    replace H : (if t158 = t160 then (if (t159 == t161) = true then ((text_Sub.f kj4 a0 a1 a2).bind fun t173 => ((caravanref5_Sub.f a0 a1 a2).bind fun t174 => (if t173.toList = t174.toList then (if t163.toList = t165.toList then (if (t164 == t166) = true then (if t168.toList = t170.toList then (if (t169 == t171) = true then ((caravanlaw6_awake.f kj4).bind fun t175 => (some t175)) else (some false)) else (some false)) else (some false)) else (some false)) else (some false)))) else (some false)) else (some false)) = some r := H
    have A15 := Aside0.mk A150
    clear A150
    by_cases c16 : t158 = t160
    ·rw [if_pos c16] at H
     have c16b0 : (t158 == t160) = true := beq_iff_eq.mpr c16
     have c16b1 : (t158 != t160) = false := bne_eq_false_iff_eq.mpr c16
     clear c16
     by_cases c17 : (t159 == t161) = true
     ·rw [if_pos c17] at H
      have c17b0 : (t159 == t161) = true := c17
      (try (have c17b1 : decide (t159 = t161) = true := by simpa using c17))
      (try (have c17b2 : (t159 == t161) = true := by simpa using c17))
      clear c17
      replace H := Option.bind_eq_some_iff.mp H
      obtain ⟨t173, A180, H⟩ := H
      replace H : ((caravanref5_Sub.f a0 a1 a2).bind fun t174 => (if t173.toList = t174.toList then (if t163.toList = t165.toList then (if (t164 == t166) = true then (if t168.toList = t170.toList then (if (t169 == t171) = true then ((caravanlaw6_awake.f kj4).bind fun t175 => (some t175)) else (some false)) else (some false)) else (some false)) else (some false)) else (some false))) = some r := H
      have A18 := Aside0.mk A180
      clear A180
      replace H := Option.bind_eq_some_iff.mp H
      obtain ⟨t174, A190, H⟩ := H
      replace H : (if t173.toList = t174.toList then (if t163.toList = t165.toList then (if (t164 == t166) = true then (if t168.toList = t170.toList then (if (t169 == t171) = true then ((caravanlaw6_awake.f kj4).bind fun t175 => (some t175)) else (some false)) else (some false)) else (some false)) else (some false)) else (some false)) = some r := H
      have A19 := Aside0.mk A190
      clear A190
      by_cases c20 : t173.toList = t174.toList
      ·rw [if_pos c20] at H
       have c20b0 : (t173.toList == t174.toList) = true := beq_iff_eq.mpr c20
       have c20b1 : (t173.toList != t174.toList) = false := bne_eq_false_iff_eq.mpr c20
       clear c20
       by_cases c21 : t163.toList = t165.toList
       ·rw [if_pos c21] at H
        have c21b0 : (t163.toList == t165.toList) = true := beq_iff_eq.mpr c21
        have c21b1 : (t163.toList != t165.toList) = false := bne_eq_false_iff_eq.mpr c21
        clear c21
        by_cases c22 : (t164 == t166) = true
        ·rw [if_pos c22] at H
         have c22b0 : (t164 == t166) = true := c22
         (try (have c22b1 : decide (t164 = t166) = true := by simpa using c22))
         (try (have c22b2 : (t164 == t166) = true := by simpa using c22))
         clear c22
         by_cases c23 : t168.toList = t170.toList
         ·rw [if_pos c23] at H
          have c23b0 : (t168.toList == t170.toList) = true := beq_iff_eq.mpr c23
          have c23b1 : (t168.toList != t170.toList) = false := bne_eq_false_iff_eq.mpr c23
          clear c23
          by_cases c24 : (t169 == t171) = true
          ·rw [if_pos c24] at H
           have c24b0 : (t169 == t171) = true := c24
           (try (have c24b1 : decide (t169 = t171) = true := by simpa using c24))
           (try (have c24b2 : (t169 == t171) = true := by simpa using c24))
           clear c24
           replace H := Option.bind_eq_some_iff.mp H
           obtain ⟨t175, A250, H⟩ := H
           replace H : (some t175) = some r := H
           have A25 := Aside0.mk A250
           clear A250
           obtain rfl := Option.some.inj H
           go_wp2_with (first | ((with_reducible refine gate_callee (f := 8) rfl ?_); refine goesL_ (some 29) rfl rfl Tryd.func8 (by kernel_rfl) rfl #[.string a0] rfl qM_ ?_; (with_reducible refine (text_Number.calls a0 t158 t159 _ A10.out (Wd.of hWd_ (qdb35_ HB.out))).mono ?_); rintro e w26 ⟨rfl, hb⟩; refine ⟨_, rfl, ?_⟩; have n0_ := Aside0.mk (below_step (qdb35_ HB.out) hb); clear HB; have HB := n0_; clear n0_; (try clear hb); (try clear hb2); (try clear hk); (try clear hi)) | ((with_reducible refine gate_callee (f := 11) rfl ?_); refine goesL_ (some 33) rfl rfl Tryd.func11 (by kernel_rfl) rfl #[.string a0] rfl qM_ ?_; (with_reducible refine (caravanref5_Number.calls kj4 a0 t160 t161 _ A11.out).mono ?_); rintro e w27 ⟨rfl, hb⟩; refine ⟨_, rfl, ?_⟩; have n0_ := Aside0.mk (below_step (qdb35_ HB.out) hb); clear HB; have HB := n0_; clear n0_; (try clear hb); (try clear hb2); (try clear hk); (try clear hi)) | ((with_reducible refine gate_dst (N := 11) rfl ?_); (try (refine gate_guard (by rfl) ?_; dsimp only)); refine box_event ?hg (N := 11) ?hd (cs := #[.int .i64 0, .bool false]) (t := 33) ?hr ?_; (case hd => rfl); (case hg => rfl); (case hr => first | (go_simp; done) | (go_simp; rfl)); intro gb162 hg w28 hbox hb; have n0_ := Aside0.mk (below_step (qdb35_ HB.out) hb); have n1_ := Aside0.mk (hbox); have n2_ := Aside0.mk ((by rw [hg]; exact (below_size (qdb35_ HB.out)) : w.heap.size ≤ gb162)); have n3_ := Aside0.mk ((by rw [hg]; exact (below_size (qdb35_ HB.out)) : w.heap.size ≤ gb162)); clear HB; have HB := n0_; have BK162 := n1_; have GW162 := n2_; have GE162 := n3_; clear n0_ n1_ n2_ n3_; clear hb hbox hg; have hcz29_0 : w28.cell? ⟨gb162, 0, none⟩ = some (.int .i64 0) := (blk_cell BK162.out 0).trans rfl; have hcz29_1 : w28.cell? ⟨gb162, 1, none⟩ = some (.bool false) := (blk_cell BK162.out 1).trans rfl; have hfz29_0 := blk_frozen BK162.out 0; have hfz29_1 := blk_frozen BK162.out 1) | ((with_reducible refine gate_callee (f := 12) rfl ?_); refine goesL_ (some 38) rfl rfl Tryd.func12 (by kernel_rfl) rfl #[.string a0, .int .i64 a1, .string a3] rfl qM_ ?_; (with_reducible refine (text_Put.calls a0 a1 a3 t163 t164 _ A12.out).mono ?_); rintro e w30 ⟨rfl, hb⟩; refine ⟨_, rfl, ?_⟩; have n0_ := Aside0.mk (blk_below (g := gb162) (o := .cells #[.int .i64 t160, .bool t161] 33 (0, 0)) (by (with_reducible repeat (first | refine blk_drewN ?_ _ | refine blk_drew ?_ | refine blk_alloc ?_ _)); refine blk_put (cs := #[.int .i64 t160, .bool false]) ?_ 1 _ rfl; (with_reducible repeat (first | refine blk_drewN ?_ _ | refine blk_drew ?_ | refine blk_alloc ?_ _)); refine blk_put (cs := #[.int .i64 0, .bool false]) ?_ 0 _ rfl; (with_reducible repeat (first | refine blk_drewN ?_ _ | refine blk_drew ?_ | refine blk_alloc ?_ _)); exact BK162.out) hb); have n1_ := Aside0.mk (below_step (qed14_ HB.out GE162.out) hb); clear BK162; clear HB; have BK162 := n0_; have HB := n1_; clear n0_ n1_; (try clear hb); (try clear hb2); (try clear hk); (try clear hi)) | ((with_reducible refine gate_callee (f := 13) rfl ?_); refine goesL_ (some 44) rfl rfl Tryd.func13 (by kernel_rfl) rfl #[.string a0, .int .i64 a1, .string a3] rfl qM_ ?_; (with_reducible refine (caravanref5_Put.calls a0 a1 a3 t165 t166 _ A13.out).mono ?_); rintro e w31 ⟨rfl, hb⟩; refine ⟨_, rfl, ?_⟩; have n0_ := Aside0.mk (blk_below (g := gb162) (o := .cells #[.int .i64 t160, .bool t161] 33 (0, 0)) (q1466_ BK162.out) hb); have n1_ := Aside0.mk (below_step (qed14_ HB.out GE162.out) hb); clear BK162; clear HB; have BK162 := n0_; have HB := n1_; clear n0_ n1_; (try clear hb); (try clear hb2); (try clear hk); (try clear hi)) | ((with_reducible refine gate_dst (N := 14) rfl ?_); (try (refine gate_guard (by rfl) ?_; dsimp only)); refine box_event ?hg (N := 14) ?hd (cs := #[.string (⟨#[]⟩ : ByteArray), .bool false]) (t := 37) ?hr ?_; (case hd => rfl); (case hg => rfl); (case hr => first | (go_simp; done) | (go_simp; rfl)); intro gb167 hg w32 hbox hb; have n0_ := Aside0.mk (blk_below (g := gb162) (o := .cells #[.int .i64 t160, .bool t161] 33 (0, 0)) (q1466_ BK162.out) hb); have n1_ := Aside0.mk (below_step (qed14_ HB.out GE162.out) hb); have n2_ := Aside0.mk (hbox); have n3_ := Aside0.mk ((by rw [hg]; exact (below_size (qed14_ HB.out GE162.out)) : w.heap.size ≤ gb167)); have n4_ := Aside0.mk ((by rw [hg]; exact (below_size (qed14_ HB.out GE162.out)) : w.heap.size ≤ gb167)); have n5_ := Aside0.mk ((by rw [hg]; exact Nat.ne_of_lt (blk_lt (g := gb162) (o := .cells #[.int .i64 t160, .bool t161] 33 (0, 0)) (q1466_ BK162.out)) : gb162 ≠ gb167)); have n6_ := Aside0.mk ((by rw [hg]; exact Nat.ne_of_gt (blk_lt (g := gb162) (o := .cells #[.int .i64 t160, .bool t161] 33 (0, 0)) (q1466_ BK162.out)) : gb167 ≠ gb162)); clear BK162; clear HB; have BK162 := n0_; have HB := n1_; have BK167 := n2_; have GW167 := n3_; have GE167 := n4_; have NB162_167 := n5_; have NB167_162 := n6_; clear n0_ n1_ n2_ n3_ n4_ n5_ n6_; clear hb hbox hg; have hnb33 := NB167_162.out; have hnc33 := NB162_167.out; have hcz34_0 : w32.cell? ⟨gb167, 0, none⟩ = some (.string (⟨#[]⟩ : ByteArray)) := (blk_cell BK167.out 0).trans rfl; have hcz34_1 : w32.cell? ⟨gb167, 1, none⟩ = some (.bool false) := (blk_cell BK167.out 1).trans rfl; have hfz34_0 := blk_frozen BK167.out 0; have hfz34_1 := blk_frozen BK167.out 1) | ((with_reducible refine gate_callee (f := 10) rfl ?_); refine goesL_ (some 48) rfl rfl Tryd.func10 (by kernel_rfl) rfl #[.string a0, .int .i64 a1] rfl qM_ ?_; (with_reducible refine (text_Add.calls a0 a1 t168 t169 _ A14.out (Wd.of hWd_ (q8f57_ HB.out GE162.out GE167.out))).mono ?_); rintro e w35 ⟨rfl, hb⟩; refine ⟨_, rfl, ?_⟩; have n0_ := Aside0.mk (blk_below (g := gb162) (o := .cells #[.int .i64 t160, .bool t161] 33 (0, 0)) (qe049_ NB162_167.out BK162.out) hb); have n1_ := Aside0.mk (blk_below (g := gb167) (o := .cells #[.string t165, .bool t166] 37 (0, 0)) (by (with_reducible repeat (first | refine blk_drewN ?_ _ | refine blk_drew ?_ | refine blk_alloc ?_ _)); refine blk_put (cs := #[.string t165, .bool false]) ?_ 1 _ rfl; (with_reducible repeat (first | refine blk_drewN ?_ _ | refine blk_drew ?_ | refine blk_alloc ?_ _)); refine blk_put (cs := #[.string (⟨#[]⟩ : ByteArray), .bool false]) ?_ 0 _ rfl; (with_reducible repeat (first | refine blk_drewN ?_ _ | refine blk_drew ?_ | refine blk_alloc ?_ _)); exact BK167.out) hb); have n2_ := Aside0.mk (below_step (q8f57_ HB.out GE162.out GE167.out) hb); clear BK162; clear BK167; clear HB; have BK162 := n0_; have BK167 := n1_; have HB := n2_; clear n0_ n1_ n2_; (try clear hb); (try clear hb2); (try clear hk); (try clear hi)) | ((with_reducible refine gate_callee (f := 14) rfl ?_); refine goesL_ (some 53) rfl rfl Tryd.func14 (by kernel_rfl) rfl #[.string a0, .int .i64 a1] rfl qM_ ?_; (with_reducible refine (caravanref5_Add.calls kj4 a0 a1 t170 t171 _ A15.out).mono ?_); rintro e w36 ⟨rfl, hb⟩; refine ⟨_, rfl, ?_⟩; have n0_ := Aside0.mk (blk_below (g := gb162) (o := .cells #[.int .i64 t160, .bool t161] 33 (0, 0)) (q1466_ BK162.out) hb); have n1_ := Aside0.mk (blk_below (g := gb167) (o := .cells #[.string t165, .bool t166] 37 (0, 0)) (q1466_ BK167.out) hb); have n2_ := Aside0.mk (below_step (q8f57_ HB.out GE162.out GE167.out) hb); clear BK162; clear BK167; clear HB; have BK162 := n0_; have BK167 := n1_; have HB := n2_; clear n0_ n1_ n2_; (try clear hb); (try clear hb2); (try clear hk); (try clear hi)) | ((with_reducible refine gate_dst (N := 17) rfl ?_); (try (refine gate_guard (by rfl) ?_; dsimp only)); refine box_event ?hg (N := 17) ?hd (cs := #[.string (⟨#[]⟩ : ByteArray), .bool false]) (t := 37) ?hr ?_; (case hd => rfl); (case hg => rfl); (case hr => first | (go_simp; done) | (go_simp; rfl)); intro gb172 hg w37 hbox hb; have n0_ := Aside0.mk (blk_below (g := gb162) (o := .cells #[.int .i64 t160, .bool t161] 33 (0, 0)) (q1466_ BK162.out) hb); have n1_ := Aside0.mk (blk_below (g := gb167) (o := .cells #[.string t165, .bool t166] 37 (0, 0)) (q1466_ BK167.out) hb); have n2_ := Aside0.mk (below_step (q8f57_ HB.out GE162.out GE167.out) hb); have n3_ := Aside0.mk (hbox); have n4_ := Aside0.mk ((by rw [hg]; exact (below_size (q8f57_ HB.out GE162.out GE167.out)) : w.heap.size ≤ gb172)); have n5_ := Aside0.mk ((by rw [hg]; exact (below_size (q8f57_ HB.out GE162.out GE167.out)) : w.heap.size ≤ gb172)); have n6_ := Aside0.mk ((by rw [hg]; exact Nat.ne_of_lt (blk_lt (g := gb162) (o := .cells #[.int .i64 t160, .bool t161] 33 (0, 0)) (q1466_ BK162.out)) : gb162 ≠ gb172)); have n7_ := Aside0.mk ((by rw [hg]; exact Nat.ne_of_gt (blk_lt (g := gb162) (o := .cells #[.int .i64 t160, .bool t161] 33 (0, 0)) (q1466_ BK162.out)) : gb172 ≠ gb162)); have n8_ := Aside0.mk ((by rw [hg]; exact Nat.ne_of_lt (blk_lt (g := gb167) (o := .cells #[.string t165, .bool t166] 37 (0, 0)) (q1466_ BK167.out)) : gb167 ≠ gb172)); have n9_ := Aside0.mk ((by rw [hg]; exact Nat.ne_of_gt (blk_lt (g := gb167) (o := .cells #[.string t165, .bool t166] 37 (0, 0)) (q1466_ BK167.out)) : gb172 ≠ gb167)); clear BK162; clear BK167; clear HB; have BK162 := n0_; have BK167 := n1_; have HB := n2_; have BK172 := n3_; have GW172 := n4_; have GE172 := n5_; have NB162_172 := n6_; have NB172_162 := n7_; have NB167_172 := n8_; have NB172_167 := n9_; clear n0_ n1_ n2_ n3_ n4_ n5_ n6_ n7_ n8_ n9_; clear hb hbox hg; have hnb38 := NB172_162.out; have hnc38 := NB162_172.out; have hnb39 := NB172_167.out; have hnc39 := NB167_172.out; have hcz40_0 : w37.cell? ⟨gb172, 0, none⟩ = some (.string (⟨#[]⟩ : ByteArray)) := (blk_cell BK172.out 0).trans rfl; have hcz40_1 : w37.cell? ⟨gb172, 1, none⟩ = some (.bool false) := (blk_cell BK172.out 1).trans rfl; have hfz40_0 := blk_frozen BK172.out 0; have hfz40_1 := blk_frozen BK172.out 1; have hcz41_0 : w37.cell? ⟨gb162, 0, none⟩ = some (.int .i64 t160) := (blk_cell BK162.out 0).trans rfl; have hcz41_1 : w37.cell? ⟨gb162, 1, none⟩ = some (.bool t161) := (blk_cell BK162.out 1).trans rfl; have hfz41_0 := blk_frozen BK162.out 0; have hfz41_1 := blk_frozen BK162.out 1) | (go_at_call 15; (with_reducible refine (text_Sub.calls kj4 a0 a1 a2 t173 _ A18.out).mono ?_); rintro e w42 ⟨rfl, hb⟩; have n0_ := Aside0.mk (blk_below (g := gb162) (o := .cells #[.int .i64 t160, .bool t161] 33 (0, 0)) (qe049_ NB162_172.out BK162.out) hb); have n1_ := Aside0.mk (blk_below (g := gb167) (o := .cells #[.string t165, .bool t166] 37 (0, 0)) (qe049_ NB167_172.out BK167.out) hb); have n2_ := Aside0.mk (blk_below (g := gb172) (o := .cells #[.string t170, .bool t171] 37 (0, 0)) (by (with_reducible repeat (first | refine blk_drewN ?_ _ | refine blk_drew ?_ | refine blk_alloc ?_ _)); refine blk_put (cs := #[.string t170, .bool false]) ?_ 1 _ rfl; (with_reducible repeat (first | refine blk_drewN ?_ _ | refine blk_drew ?_ | refine blk_alloc ?_ _)); refine blk_put (cs := #[.string (⟨#[]⟩ : ByteArray), .bool false]) ?_ 0 _ rfl; (with_reducible repeat (first | refine blk_drewN ?_ _ | refine blk_drew ?_ | refine blk_alloc ?_ _)); exact BK172.out) hb); have n3_ := Aside0.mk (below_step (q1dc4_ HB.out GE162.out GE167.out GE172.out) hb); clear BK162; clear BK167; clear BK172; clear HB; have BK162 := n0_; have BK167 := n1_; have BK172 := n2_; have HB := n3_; clear n0_ n1_ n2_ n3_; (try clear hb); (try clear hb2); (try clear hk); (try clear hi)) | (go_at_call 16; (with_reducible refine (caravanref5_Sub.calls a0 a1 a2 t174 _ A19.out).mono ?_); rintro e w43 ⟨rfl, hb⟩; have n0_ := Aside0.mk (blk_below (g := gb162) (o := .cells #[.int .i64 t160, .bool t161] 33 (0, 0)) (q1466_ BK162.out) hb); have n1_ := Aside0.mk (blk_below (g := gb167) (o := .cells #[.string t165, .bool t166] 37 (0, 0)) (q1466_ BK167.out) hb); have n2_ := Aside0.mk (blk_below (g := gb172) (o := .cells #[.string t170, .bool t171] 37 (0, 0)) (q1466_ BK172.out) hb); have n3_ := Aside0.mk (below_step (q1dc4_ HB.out GE162.out GE167.out GE172.out) hb); clear BK162; clear BK167; clear BK172; clear HB; have BK162 := n0_; have BK167 := n1_; have BK172 := n2_; have HB := n3_; clear n0_ n1_ n2_ n3_; (try clear hb); (try clear hb2); (try clear hk); (try clear hi); have hcz44_0 : w43.cell? ⟨gb167, 0, none⟩ = some (.string t165) := (blk_cell BK167.out 0).trans rfl; have hcz44_1 : w43.cell? ⟨gb167, 1, none⟩ = some (.bool t166) := (blk_cell BK167.out 1).trans rfl; have hfz44_0 := blk_frozen BK167.out 0; have hfz44_1 := blk_frozen BK167.out 1; have hcz45_0 : w43.cell? ⟨gb172, 0, none⟩ = some (.string t170) := (blk_cell BK172.out 0).trans rfl; have hcz45_1 : w43.cell? ⟨gb172, 1, none⟩ = some (.bool t171) := (blk_cell BK172.out 1).trans rfl; have hfz45_0 := blk_frozen BK172.out 0; have hfz45_1 := blk_frozen BK172.out 1) | (go_at_call 9; (with_reducible refine (caravanlaw6_awake.calls kj4  t175 _ A25.out).mono ?_); rintro e w46 ⟨rfl, hb⟩; have n0_ := Aside0.mk (blk_below (g := gb162) (o := .cells #[.int .i64 t160, .bool t161] 33 (0, 0)) (q1466_ BK162.out) hb); have n1_ := Aside0.mk (blk_below (g := gb167) (o := .cells #[.string t165, .bool t166] 37 (0, 0)) (q1466_ BK167.out) hb); have n2_ := Aside0.mk (blk_below (g := gb172) (o := .cells #[.string t170, .bool t171] 37 (0, 0)) (q1466_ BK172.out) hb); have n3_ := Aside0.mk (below_step (q1dc4_ HB.out GE162.out GE167.out GE172.out) hb); clear BK162; clear BK167; clear BK172; clear HB; have BK162 := n0_; have BK167 := n1_; have BK172 := n2_; have HB := n3_; clear n0_ n1_ n2_ n3_; (try clear hb); (try clear hb2); (try clear hk); (try clear hi)))
           go_ret
           exact ⟨by first | rfl | (simp [errW_none, errW_some] <;> rfl) | (simp [*, errW_none, errW_some] <;> rfl), (q1dc4_ HB.out GE162.out GE167.out GE172.out)⟩
          ·rw [if_neg c24] at H
           have c24b0 : (t169 == t171) = false := by simpa using c24
           (try (have c24b1 : decide (t169 = t171) = false := by simpa using c24))
           (try (have c24b2 : (t169 == t171) = false := by simpa using c24))
           (try (have c24b3 : ¬ (t169 = t171) := by simpa using c24))
           clear c24
           subst hrt_; exact absurd H (by simp)
         ·rw [if_neg c23] at H
          have c23b0 : (t168.toList == t170.toList) = false := beq_eq_false_iff_ne.mpr c23
          have c23b1 : (t168.toList != t170.toList) = true := bne_iff_ne.mpr c23
          subst hrt_; exact absurd H (by simp)
        ·rw [if_neg c22] at H
         have c22b0 : (t164 == t166) = false := by simpa using c22
         (try (have c22b1 : decide (t164 = t166) = false := by simpa using c22))
         (try (have c22b2 : (t164 == t166) = false := by simpa using c22))
         (try (have c22b3 : ¬ (t164 = t166) := by simpa using c22))
         clear c22
         subst hrt_; exact absurd H (by simp)
       ·rw [if_neg c21] at H
        have c21b0 : (t163.toList == t165.toList) = false := beq_eq_false_iff_ne.mpr c21
        have c21b1 : (t163.toList != t165.toList) = true := bne_iff_ne.mpr c21
        subst hrt_; exact absurd H (by simp)
      ·rw [if_neg c20] at H
       have c20b0 : (t173.toList == t174.toList) = false := beq_eq_false_iff_ne.mpr c20
       have c20b1 : (t173.toList != t174.toList) = true := bne_iff_ne.mpr c20
       subst hrt_; exact absurd H (by simp)
     ·rw [if_neg c17] at H
      have c17b0 : (t159 == t161) = false := by simpa using c17
      (try (have c17b1 : decide (t159 = t161) = false := by simpa using c17))
      (try (have c17b2 : (t159 == t161) = false := by simpa using c17))
      (try (have c17b3 : ¬ (t159 = t161) := by simpa using c17))
      clear c17
      subst hrt_; exact absurd H (by simp)
    ·rw [if_neg c16] at H
     have c16b0 : (t158 == t160) = false := beq_eq_false_iff_ne.mpr c16
     have c16b1 : (t158 != t160) = true := bne_iff_ne.mpr c16
     subst hrt_; exact absurd H (by simp)

/-- THE ONE PURE STATEMENT of caravanlaw6_TextAll: yours. -/
def caravanlaw6_TextAll.Pure : Prop := ∀ (a0 : ByteArray) (a1 : Int) (a2 : Int) (a3 : ByteArray), a0.size ≤ 140737488351232 → (Lit.int .i64 a1).wf = true → (Lit.int .i64 a2).wf = true → a3.size ≤ 140737488351232 → ∃ k, caravanlaw6_TextAll.f k a0 a1 a2 a3 = some true
theorem caravanlaw6_TextAll.walk (P : caravanlaw6_TextAll.Pure) (a0 : ByteArray) (a1 : Int) (a2 : Int) (a3 : ByteArray) (w : World) (hWd_ : Wd w) (w0 : a0.size ≤ 140737488351232) (w1 : (Lit.int .i64 a1).wf = true) (w2 : (Lit.int .i64 a2).wf = true) (w3 : a3.size ≤ 140737488351232) :
 Calls Tryd.prog 6 #[.string a0, .int .i64 a1, .int .i64 a2, .string a3] w fun e w' => e = .returned (.bool true) ∧ Below w.heap.size w w' := by
 obtain ⟨k, h⟩ := P a0 a1 a2 a3 w0 w1 w2 w3
 refine (caravanlaw6_TextAll.calls k a0 a1 a2 a3 true w h rfl hWd_).mono ?_
 rintro e w' ⟨rfl, hd⟩
 exact ⟨rfl, hd⟩

end Go.Proofs.YtfmhhahhomnkbaaDoor.G
