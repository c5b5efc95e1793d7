/- What functions of the translation come to, and their calls' proofs; by a program of mine over the kit's print, with contracts given by hand beside. Conditions: where a plain function tells none, nothing is said. -/
import Derived.Test.YtnlakdpfkgjdaaaDoorG0
import Derived.Test.YtnlakdpfkgjdaaaDoorG2
import Derived.Test.YtnlakdpfkgjdaaaDoorGHas
import Derived.Test.YtnlakdpfkgjdaaaDoorGNorm
namespace Go.Proofs.YtnlakdpfkgjdaaaDoor.G
open Go.RowKit Go.Proofs.YtnlakdpfkgjdaaaDoorW.PrintWords Go.Proofs.YtnlakdpfkgjdaaaDoorW.PrintLast Go.Proofs.YtnlakdpfkgjdaaaDoorW.PrintMore
attribute [local go_sem] max2_int min2_int max_two min_two max_three min_three max_four min_four   -- for this text's walks alone
set_option linter.unusedVariables false
set_option linter.unusedSimpArgs false

/-! ### caravanlaw2_SpansSlots: function 6 -/
mutual
def caravanlaw2_SpansSlots.l0 : Nat → List Int → Int → List (S31) → List Bool → Int → Option (Bool)
 | 0, _, _, _, _, _ => none
 | k + 1, x0, x1, x5, x6, x7 => if x7 < (x0.length : Int) then (if 0 ≤ x7 then (if 0 ≤ (wrap64 ((Int.tmod (wrap64 (rd x0 x7)) 200) + 1)) then (if (wrap64 ((Int.tmod (wrap64 (rd x0 x7)) 200) + 1)) < (x6.length : Int) then (if x5.length < 8796093022208 then (caravanlaw2_SpansSlots.l0 k x0 x1 (x5 ++ [(⟨Int.tmod (wrap64 (rd x0 x7)) 200, Int.tmod (wrap64 (rd x0 x7)) 200⟩ : S31)]) (x6.set ((wrap64 ((Int.tmod (wrap64 (rd x0 x7)) 200) + 1)) : Int).toNat true) (wrap64 (x7 + 1))) else (none)) else (none)) else (none)) else (none)) else ((spans_Norm.f k x5).bind fun t333 => (caravanlaw2_SpansSlots.l1 k x1 x5 x6 t333 0 0 1))
def caravanlaw2_SpansSlots.l1 : Nat → Int → List (S31) → List Bool → List (S31) → Int → Int → Int → Option (Bool)
 | 0, _, _, _, _, _, _, _ => none
 | k + 1, x1, x5, x6, x9, x10, x11, x12 => if x12 < 202 then (if 0 ≤ x12 then (if x12 < (x6.length : Int) then (if rdOf false x6 x12 = true then (if 0 ≤ (wrap64 (x12 - 1)) then (if (wrap64 (x12 - 1)) < (x6.length : Int) then (if (rdOf false x6 (wrap64 (x12 - 1)) = true) then (caravanlaw2_SpansSlots.l1 k x1 x5 x6 x9 (wrap64 (x10 + 1)) x11 (wrap64 (x12 + 1))) else (caravanlaw2_SpansSlots.l1 k x1 x5 x6 x9 (wrap64 (x10 + 1)) (wrap64 (x11 + 1)) (wrap64 (x12 + 1)))) else (none)) else (none)) else (caravanlaw2_SpansSlots.l1 k x1 x5 x6 x9 x10 x11 (wrap64 (x12 + 1)))) else (none)) else (none)) else ((spans_Count.f k x5).bind fun t340 => (if t340 = x10 then (if (x9.length : Int) = x11 then ((spans_Has.f x5 (Int.tmod (wrap64 (x1)) 200)).bind fun t341 => (if 0 ≤ (wrap64 ((Int.tmod (wrap64 (x1)) 200) + 1)) then (if (wrap64 ((Int.tmod (wrap64 (x1)) 200) + 1)) < (x6.length : Int) then (if (t341 == (rdOf false x6 (wrap64 ((Int.tmod (wrap64 (x1)) 200) + 1)))) = true then ((spans_Has.f x9 (Int.tmod (wrap64 (x1)) 200)).bind fun t343 => (if (t343 == (rdOf false x6 (wrap64 ((Int.tmod (wrap64 (x1)) 200) + 1)))) = true then ((spans_Has.f x5 (-1)).bind fun t345 => (if t345 = true then (some false) else ((spans_Has.f x5 16384).bind fun t346 => (if t346 = true then (some false) else ((caravanlaw2_awake.f k).bind fun t347 => (some t347)))))) else (some false))) else (some false)) else (none)) else (none))) else (some false)) else (some false)))
end
def caravanlaw2_SpansSlots.f (k : Nat) (l0 : List Int) (a1 : Int) : Option (Bool) := if (l0.length : Int) > 60 then ((caravanlaw2_awake.f k).bind fun t324 => (some t324)) else (if 202 ≤ 281474976710656 then (caravanlaw2_SpansSlots.l0 k l0 a1 ([] : List (S31)) (List.replicate 202 false) 0) else (none))
theorem caravanlaw2_SpansSlots.mono_l : ∀ k, (∀ y0 y1 y2 y3 y4, LeO (caravanlaw2_SpansSlots.l0 k y0 y1 y2 y3 y4) (caravanlaw2_SpansSlots.l0 (k + 1) y0 y1 y2 y3 y4)) ∧ (∀ y0 y1 y2 y3 y4 y5 y6, LeO (caravanlaw2_SpansSlots.l1 k y0 y1 y2 y3 y4 y5 y6) (caravanlaw2_SpansSlots.l1 (k + 1) y0 y1 y2 y3 y4 y5 y6))
 | 0 => ⟨fun _ _ _ _ _ r h => by simp [caravanlaw2_SpansSlots.l0] at h, fun _ _ _ _ _ _ _ r h => by simp [caravanlaw2_SpansSlots.l1] at h⟩
 | k + 1 => by
  obtain ⟨ih0, ih1⟩ := caravanlaw2_SpansSlots.mono_l k
  refine ⟨?_, ?_⟩
  ·intro y0 y1 y2 y3 y4
   unfold caravanlaw2_SpansSlots.l0
   repeat' first
   | (with_reducible exact ih0 _ _ _ _ _)
   | (with_reducible exact ih1 _ _ _ _ _ _ _)
   | (with_reducible exact caravanlaw2_awake.mono _)
   | (with_reducible exact spans_Count.mono _ _)
   | (with_reducible exact spans_Norm.mono _ _)
   | (with_reducible exact LeO.refl _)
   | (with_reducible exact LeO.none _)
   | (with_reducible refine LeO.ite ?_ ?_)
   | (with_reducible refine LeO.bind ?_ (fun _ => ?_))
   | exact ih0 _ _ _ _ _
   | exact ih1 _ _ _ _ _ _ _
   | exact caravanlaw2_awake.mono _
   | exact spans_Count.mono _ _
   | exact spans_Norm.mono _ _
   | exact LeO.none _
   | refine LeO.ite ?_ ?_
   | refine LeO.bind ?_ (fun _ => ?_)
  ·intro y0 y1 y2 y3 y4 y5 y6
   unfold caravanlaw2_SpansSlots.l1
   repeat' first
   | (with_reducible exact ih0 _ _ _ _ _)
   | (with_reducible exact ih1 _ _ _ _ _ _ _)
   | (with_reducible exact caravanlaw2_awake.mono _)
   | (with_reducible exact spans_Count.mono _ _)
   | (with_reducible exact spans_Norm.mono _ _)
   | (with_reducible exact LeO.refl _)
   | (with_reducible exact LeO.none _)
   | (with_reducible refine LeO.ite ?_ ?_)
   | (with_reducible refine LeO.bind ?_ (fun _ => ?_))
   | exact ih0 _ _ _ _ _
   | exact ih1 _ _ _ _ _ _ _
   | exact caravanlaw2_awake.mono _
   | exact spans_Count.mono _ _
   | exact spans_Norm.mono _ _
   | exact LeO.none _
   | refine LeO.ite ?_ ?_
   | refine LeO.bind ?_ (fun _ => ?_)
theorem caravanlaw2_SpansSlots.mono : ∀ a0 a1 k, LeO (caravanlaw2_SpansSlots.f k a0 a1) (caravanlaw2_SpansSlots.f (k + 1) a0 a1) := by
 intro a0 a1 k
 obtain ⟨ih0, ih1⟩ := caravanlaw2_SpansSlots.mono_l k
 unfold caravanlaw2_SpansSlots.f
 repeat' first
  | (with_reducible exact ih0 _ _ _ _ _)
  | (with_reducible exact ih1 _ _ _ _ _ _ _)
  | (with_reducible exact caravanlaw2_awake.mono _)
  | (with_reducible exact spans_Count.mono _ _)
  | (with_reducible exact spans_Norm.mono _ _)
  | (with_reducible exact LeO.refl _)
  | (with_reducible exact LeO.none _)
  | (with_reducible refine LeO.ite ?_ ?_)
  | (with_reducible refine LeO.bind ?_ (fun _ => ?_))
  | exact ih0 _ _ _ _ _
  | exact ih1 _ _ _ _ _ _ _
  | exact caravanlaw2_awake.mono _
  | exact spans_Count.mono _ _
  | exact spans_Norm.mono _ _
  | exact LeO.none _
  | refine LeO.ite ?_ ?_
  | refine LeO.bind ?_ (fun _ => ?_)
def caravanlaw2_SpansSlots.T21 : Bool × List (List Nat × List Nat) := (true, [([], []), ([0], [0]), ([], []), ([1, 2], [1, 2]), ([3, 1], [3]), ([4], [4]), ([5, 4], [4, 5]), ([4], [4]), ([6, 7, 4], [4, 6, 7]), ([4, 8], [4, 8]), ([9, 4], [9]), ([10], [10]), ([10], [10]), ([11, 12, 10, 10], [10, 11, 12]), ([10], [10]), ([10], [10]), ([15, 10], [10, 15]), ([14, 16, 10], [10, 14, 16]), ([17, 10], [10, 17]), ([13, 18, 10], [10, 13, 18]), ([10, 19], [10, 19]), ([20, 13], [20]), ([21], [21]), ([21], [21]), ([22, 23, 21, 21], [21, 22, 23]), ([21], [21]), ([21], [21]), ([26, 21], [21, 26]), ([25, 27, 21], [21, 25, 27]), ([28, 21], [21, 28]), ([24, 29, 21], [21, 24, 29]), ([21, 30], [21, 30]), ([31, 24], [31]), ([32], [32]), ([33, 32, 32], [32, 33]), ([34, 32], [32, 34]), ([32, 35], [32, 35]), ([36, 34], [36]), ([37], [37]), ([38, 37, 37], [37, 38]), ([39, 37], [37, 39]), ([37, 40], [37, 40]), ([41, 39], [41]), ([42, 42], [42]), ([42, 43], [42, 43]), ([44, 43, 0, 1, 2, 3, 4, 5, 6, 7, 8, 9, 10, 11, 12, 13, 14, 15, 16, 17, 18, 19, 20, 21, 22, 23, 24, 25, 26, 27, 28, 29, 30, 31, 32, 33, 34, 35, 36, 37, 38, 39, 40, 41, 42, 43, 44], [44])])
def caravanlaw2_SpansSlots.B21 : List Nat := [0, 1, 0, 7, 15, 31, 63, 31, 255, 511, 1023, 2047, 2047, 8191, 2047, 2047, 34815, 116735, 247807, 524287, 1048575, 2097151, 4194303, 4194303, 16777215, 4194303, 4194303, 71303167, 239075327, 507510783, 1073741823, 2147483647, 4294967295, 8589934591, 17179869183, 34359738367, 68719476735, 137438953471, 274877906943, 549755813887, 1099511627775, 2199023255551, 4398046511103, 8796093022207, 17592186044415, 35184372088831]
theorem caravanlaw2_SpansSlots.tab21 : rtab .any (opsOf Tryd.f6 21) = caravanlaw2_SpansSlots.T21 := by kernel_rfl
theorem caravanlaw2_SpansSlots.bits21 : waitsOk caravanlaw2_SpansSlots.T21.2 caravanlaw2_SpansSlots.B21 = true := by kernel_rfl
set_option maxHeartbeats 8000000 in
set_option maxRecDepth 100000 in
theorem caravanlaw2_SpansSlots.calls (k : Nat) (A0 : Option Addr) (c0 : Nat) (l0 : List Int) (a1 : Int) (r : Bool) (w : World) (hr0 : Kd.C (Kd.int .u16) w A0 l0.length l0) (hc0 : l0.length ≤ c0) (h : caravanlaw2_SpansSlots.f k l0 a1 = some r) (hrt_ : r = true) (hWd_ : Wd w) :
 Calls Tryd.prog 6 #[.slice A0 l0.length c0, .int .u16 a1] w fun e w' => e = .returned (.bool r) ∧ Below w.heap.size w w' := by
 have hu31 := Tryd.underlying31
 have HR0 := Aside0.mk hr0
 have HC0 := Aside0.mk hc0
 clear hr0 hc0
 have HB := Aside0.mk (Below.refl w.heap.size w)
 have H : (if (l0.length : Int) > 60 then ((caravanlaw2_awake.f k).bind fun t324 => (some t324)) else (if 202 ≤ 281474976710656 then (caravanlaw2_SpansSlots.l0 k l0 a1 ([] : List (S31)) (List.replicate 202 false) 0) else (none))) = some r := h
 clear h
 by_cases c3 : (l0.length : Int) > 60
 ·rw [if_pos c3] at H
  have c3b0 : decide (60 < (l0.length : Int)) = true := decide_eq_true c3
  have c3b1 : decide (60 < l0.length) = true := decide_eq_true (by omega)
  clear c3
  replace H := Option.bind_eq_some_iff.mp H
  obtain ⟨t324, A40, H⟩ := H
  replace H : (some t324) = some r := H
  have A4 := Aside0.mk A40
  clear A40
  obtain rfl := Option.some.inj H
  go_enter Tryd.func6, Tryd.ntmps6
  go_wp2_with (first | ((with_reducible refine gate_callee (f := 9) rfl ?_); refine goesL_ (some 17) rfl rfl Tryd.func9 (by kernel_rfl) rfl #[] rfl qM_ ?_; (with_reducible refine (caravanlaw2_awake.calls k  t324 _ A4.out (Wd.of hWd_ (qdb35_ HB.out))).mono ?_); rintro e w5 ⟨rfl, hb⟩; refine ⟨_, rfl, ?_⟩; have n0_ := Aside0.mk (below_step (qdb35_ HB.out) hb); clear HB; have HB := n0_; clear n0_; (try clear hb); (try clear hb2); (try clear hk); (try clear hi)))
  go_ret
  exact ⟨by first | rfl | (simp [errW_none, errW_some] <;> rfl) | (simp [*, errW_none, errW_some] <;> rfl), (qdb35_ HB.out)⟩
 ·rw [if_neg c3] at H
  have c3b0 : decide (60 < (l0.length : Int)) = false := decide_eq_false c3
  have c3b1 : decide (60 < l0.length) = false := decide_eq_false (by omega)
  clear c3
  by_cases c6 : 202 ≤ 281474976710656
  ·rw [if_pos c6] at H
   have c6b0 := eq_true c6
   have c6b1 : decide (202 ≤ 281474976710656) = true := decide_eq_true c6
   clear c6
   obtain ⟨y325, hy325⟩ : ∃ y_ : List Bool, y_ = (List.replicate 202 false) := ⟨_, rfl⟩
   replace H : (caravanlaw2_SpansSlots.l0 k l0 a1 ([] : List (S31)) y325 0) = some r := by first | (rw [hy325]; with_reducible exact H) | (have H2_ := (Option.bind_some _ _).symm.trans H; rw [hy325]; with_reducible exact H2_) | (have H2_ := (Option.bind_some _ _).symm.trans H; with_reducible exact H2_) | with_reducible exact H | (rw [hy325]; exact H) | exact H
   have Ny325 := Aside0.mk hy325
   clear hy325
   have H' := Aside0.mk H
   clear H
   go_enter Tryd.func6, Tryd.ntmps6
   go_wp2_with (first | ((with_reducible refine gate_dst (N := 18) rfl ?_); (try (refine gate_guard (by rfl) ?_; dsimp only)); refine Kd.R_make Kd.bool _ 4 rfl (N := 18) rfl 40 _ _ rfl 202 rfl rfl Tryd.underlying40 (.bool false) 1 info4 rfl (by decide) (by omega) false (ok := fun _ => True) (okp := fun _ => True) rfl (fun _ hk => hk) trivial (by omega) (by omega) (Below.refl _ _) (Nat.le_refl _) ?_; intro v326 w7 ho8 hb hg_ hnew_; clear hg_ hnew_; (first | rw [← Ny325.out] at ho8 | (simp only [Int.reduceToNat] at ho8; rw [← Ny325.out] at ho8)); have n0_ := Aside0.mk (Kd.R_lower ho8 (below_size (qdb35_ HB.out))); have n1_ := Aside0.mk (below_step (qdb35_ HB.out) hb); clear HB; have HO327 := n0_; have HB := n1_; clear n0_ n1_; clear hb ho8))
   go_loopg [5, 7] k (fun kq v5 v7 w' => ∃ (x5_1 : List (S31)) (x6_1 : List Bool) (x7_1 : Int), v7 = .int .i64 x7_1 ∧ Aside0 (caravanlaw2_SpansSlots.l0 kq l0 a1 x5_1 x6_1 x7_1 = some r) ∧ Aside0 (kq ≤ k) ∧ Aside0 (Kd.R k31 31 w' w.heap.size (fun _ => True) v5 x5_1) ∧ Aside0 (Kd.R Kd.bool 4 w' w.heap.size (fun _ => True) v326 x6_1) ∧ Aside0 (Below w.heap.size w w'))
   case atStart => exact ⟨(([] : List (S31))), (y325), (0), (by first | rfl | (simp; done) | (simp [*]; done)), H', ⟨Nat.le_refl _⟩, ⟨by first | exact Kd.R_nil _ _ _ _ _ | exact Kd.N_nil _ _ _ _ _ | exact Kd.V_nil _ _ _ _ _ | exact Kd.Q_nil _ _ _ _ _ | exact Kd.S_nil _ _ _ _ _⟩, ⟨by (with_reducible repeat (first | apply Kd.R_alloc | apply Kd.R_drewN | apply Kd.R_drew)); exact HO327.out⟩, ⟨(qdb35_ HB.out)⟩⟩
   case round =>
    clear H'
    try clear p2
    try clear c3
    try clear c3b0
    try clear c3b1
    try clear c6
    try clear c6b0
    try clear c6b1
    obtain ⟨x5_1, x6_1, x7_1, rfl, HA, HK1, HO_5, HO_6, HB⟩ := hrel
    cases gk with
    | zero => exact absurd HA.out (by simp [caravanlaw2_SpansSlots.l0])
    | succ k1 =>
     have H := HA.out
     clear HA
     simp only [caravanlaw2_SpansSlots.l0] at H
     by_cases c9 : x7_1 < (l0.length : Int)
     ·rw [if_pos c9] at H
      have c9b0 : decide (x7_1 < (l0.length : Int)) = true := decide_eq_true c9
      clear c9
      by_cases c10 : 0 ≤ x7_1
      ·rw [if_pos c10] at H
       have c10b0 : decide (0 ≤ x7_1) = true := decide_eq_true c10
       clear c10
       obtain ⟨ji11, hji11⟩ : ∃ j_ : Int, (wrap64 ((Int.tmod (wrap64 (rd l0 x7_1)) 200) + 1)) = j_ := ⟨_, rfl⟩
       replace H : (if 0 ≤ (ji11) then (if (ji11) < (x6_1.length : Int) then (if x5_1.length < 8796093022208 then (caravanlaw2_SpansSlots.l0 k1 l0 a1 (x5_1 ++ [(⟨Int.tmod (wrap64 (rd l0 x7_1)) 200, Int.tmod (wrap64 (rd l0 x7_1)) 200⟩ : S31)]) (x6_1.set ((ji11) : Int).toNat true) (wrap64 (x7_1 + 1))) else (none)) else (none)) else (none)) = some r := by first | (rw [hji11] at H; exact H) | (simp only [hji11] at H ⊢; exact H)
       have hji11w : (IntKind.i64.wrap ((Int.tmod (wrap64 (rd l0 x7_1)) 200) + 1)) = ji11 := (i64_w _).trans hji11
       by_cases c12 : 0 ≤ (ji11)
       ·rw [if_pos c12] at H
        have c12b0 : decide (0 ≤ (ji11)) = true := decide_eq_true c12
        clear c12
        by_cases c13 : (ji11) < (x6_1.length : Int)
        ·rw [if_pos c13] at H
         have c13b0 : decide ((ji11) < (x6_1.length : Int)) = true := decide_eq_true c13
         clear c13
         obtain ⟨y329, hy329⟩ : ∃ y_ : List Bool, y_ = (x6_1.set ((ji11) : Int).toNat true) := ⟨_, rfl⟩
         replace H : (if x5_1.length < 8796093022208 then (caravanlaw2_SpansSlots.l0 k1 l0 a1 (x5_1 ++ [(⟨Int.tmod (wrap64 (rd l0 x7_1)) 200, Int.tmod (wrap64 (rd l0 x7_1)) 200⟩ : S31)]) y329 (wrap64 (x7_1 + 1))) else (none)) = some r := by first | (rw [hy329]; with_reducible exact H) | (have H2_ := (Option.bind_some _ _).symm.trans H; rw [hy329]; with_reducible exact H2_) | (have H2_ := (Option.bind_some _ _).symm.trans H; with_reducible exact H2_) | with_reducible exact H | (rw [hy329]; exact H) | exact H
         have Ny329 := Aside0.mk hy329
         clear hy329
         by_cases c15 : x5_1.length < 8796093022208
         ·rw [if_pos c15] at H
          have LMc15 := Aside0.mk c15
          clear c15
          obtain ⟨y330, hy330⟩ : ∃ y_ : List (S31), y_ = (x5_1 ++ [(⟨Int.tmod (wrap64 (rd l0 x7_1)) 200, Int.tmod (wrap64 (rd l0 x7_1)) 200⟩ : S31)]) := ⟨_, rfl⟩
          replace H : (caravanlaw2_SpansSlots.l0 k1 l0 a1 y330 y329 (wrap64 (x7_1 + 1))) = some r := by first | (rw [hy330]; with_reducible exact H) | (have H2_ := (Option.bind_some _ _).symm.trans H; rw [hy330]; with_reducible exact H2_) | (have H2_ := (Option.bind_some _ _).symm.trans H; with_reducible exact H2_) | with_reducible exact H | (rw [hy330]; exact H) | exact H
          have Ny330 := Aside0.mk hy330
          clear hy330
          have H' := Aside0.mk H
          clear H
          have p328 : 0 ≤ (x7_1 : Int) := of_decide_eq_true (by first | (with_reducible assumption) | assumption)
          have q328 : x7_1 < (l0.length : Int) := of_decide_eq_true (by first | (with_reducible assumption) | assumption)
          obtain ⟨ad328, e328, hx328_0⟩ := Kd.at_int HR0.out x7_1 p328 q328
          cases e328
          replace hx328_0 := (HB.out.cell (World.block_lt_of_cell? w _ hx328_0)).trans hx328_0
          replace p328 := eq_true p328
          replace q328 := eq_true q328
          have p14 : 0 ≤ ((ji11) : Int) := of_decide_eq_true (by first | (with_reducible assumption) | assumption)
          have q14 : ((ji11) : Int) < ((x6_1.length : Int) : Int) := of_decide_eq_true (by first | (with_reducible assumption) | assumption)
          obtain ⟨go14, co14, eo14, gb14, gl14, cl14, HG14⟩ := Kd.R_form HO_6.out (by omega)
          (first | cases eo14 | (injection eo14 with ea_ en_ ec_; (first | subst ea_ | (injection ea_ with ea_; subst ea_)); subst ec_; clear en_))
          have GB14 := Aside0.mk gb14
          have GG14 := Aside0.mk HG14
          clear gb14 gl14 HG14
          obtain ⟨hx14_0, hf14_0⟩ := Kd.R_celln false HO_6.out ((ji11) : Int) p14 q14
          replace p14 := eq_true p14
          replace q14 := eq_true q14
          have HP16 := Kd.R_putg HO_6.out ((ji11) : Int) true
          go_wp2_with (first | ((with_reducible refine gate_store (t := 4) (p := 34) rfl ?_); refine store_event (t := 4) (p := 34) (v := ?vo_w17) (w1 := (wr.setCell ⟨go14, ((ji11) : Int).toNat, none⟩ (.bool true))) ?hg ?ho ?hn ?hr ?_; (case ho => rfl); (case hg => rfl); (case hn => rfl); (case hr => first | (go_simp; done) | (go_simp; rfl)); intro w17 hw; have hg : wr.grownBy w17 (some go14) := (by rw [hw]; exact HP16.2); have hp_ : Kd.R Kd.bool 4 w17 w.heap.size (fun _ => True) (.slice (some ⟨go14, 0, none⟩) x6_1.length co14) y329 := (by rw [hw, Ny329.out]; exact HP16.1); clear HP16; have n0_ := Aside0.mk (Kd.R_over' (v := (.slice (some ⟨go14, 0, none⟩) x6_1.length co14)) (q8524_ HO_5.out) (Kd.R_typed HO_6.out) (by decide) hg); have n1_ := Aside0.mk (hp_); have n2_ := Aside0.mk ((by rw [hw]; exact below_set (HB.out) GB14.out : Below w.heap.size w w17)); clear HO_5; clear HO_6; clear HB; have HO_5 := n0_; have HO_6 := n1_; have HB := n2_; clear n0_ n1_ n2_; clear hg hw hp_) | ((with_reducible refine gate_builtin (b := .append) (xs := #[.tmp 35, .tmp 39]) rfl ?_); (try (refine gate_guard (by rfl) ?_; dsimp only)); at_builtin; refine Kd.R_append k31 (w0 := w) w.heap.size rfl (.tmp 35) (.tmp 39) 23 31 (.agg #[(.int .i64 0), (.int .i64 0)]) 16 rfl Tryd.underlying23 info31 rfl (by decide) (by omega) u5 x5_1 (⟨Int.tmod (wrap64 (rd l0 x7_1)) 200, Int.tmod (wrap64 (rd l0 x7_1)) 200⟩ : S31) [.int .i64 (Int.tmod (wrap64 (rd l0 x7_1)) 200), .int .i64 (Int.tmod (wrap64 (rd l0 x7_1)) 200)] (fun _ => True) (fun _ => False) rfl rfl ?aP (fun _ hk => hk.elim) ?aF ?aO ?aB ?aS ?aL ?_; (case aP => exact k31_mkM _ _ _ (⟨Int.tmod (wrap64 (rd l0 x7_1)) 200, Int.tmod (wrap64 (rd l0 x7_1)) 200⟩ : S31)); (case aB => exact (qdb35_ HB.out)); (case aF => exact (fun _ _ => trivial)); (case aO => exact (q8524_ HO_5.out)); (case aS => exact (below_size (qdb35_ HB.out))); (case aL => have := LMc15.out; omega); intro v331 w18 ho hb hg hat; rw [← Ny330.out] at ho; have n0_ := Aside0.mk (Kd.R_over' (q8524_ HO_6.out) (Kd.R_typed (q8524_ HO_5.out)) (by decide) hg); have n1_ := Aside0.mk (hb); have n2_ := Aside0.mk (ho); clear HO_6; clear HB; clear HO_5; have HO_6 := n0_; have HB := n1_; have HO332 := n2_; clear n0_ n1_ n2_; clear ho hb hg hat))
          go_roundg k1
          case measure => have := HK1.out; omega
          case rel => exact ⟨(y330), (y329), (wrap64 (x7_1 + 1)), (by first | rfl | (simp; done) | (simp [*]; done)), H', ⟨by have := HK1.out; omega⟩, ⟨by (with_reducible repeat (first | apply Kd.R_alloc | apply Kd.R_drewN | apply Kd.R_drew)); exact HO332.out⟩, ⟨by (with_reducible repeat (first | apply Kd.R_alloc | apply Kd.R_drewN | apply Kd.R_drew)); exact HO_6.out⟩, ⟨(qdb35_ HB.out)⟩⟩
         ·rw [if_neg c15] at H
          exact absurd H (by simp)
        ·rw [if_neg c13] at H
         exact absurd H (by simp)
       ·rw [if_neg c12] at H
        exact absurd H (by simp)
      ·rw [if_neg c10] at H
       exact absurd H (by simp)
     ·rw [if_neg c9] at H
      have c9b0 : decide (x7_1 < (l0.length : Int)) = false := decide_eq_false c9
      clear c9
      replace H := Option.bind_eq_some_iff.mp H
      obtain ⟨t333, A190, H⟩ := H
      replace H : (caravanlaw2_SpansSlots.l1 k1 a1 x5_1 x6_1 t333 0 0 1) = some r := H
      have A19 := Aside0.mk A190
      clear A190
      have H' := Aside0.mk H
      clear H
      obtain ⟨Ao20, co20, eo20⟩ := Kd.R_slice HO_5.out
      subst eo20
      go_wp2_with (first | ((with_reducible refine gate_callee (f := 16) rfl ?_); refine goesL_ (some 42) rfl rfl Tryd.func16 (by kernel_rfl) rfl #[.slice Ao20 x5_1.length co20] rfl qM_ ?_; (with_reducible refine (spans_Norm.calls k1 _ _ x5_1 t333 _ ?side1 ?side2 A19.out).mono ?_); (case side1 => exact qC_ ((Kd.R_reads' HO_5.out).2.2)); (case side2 => exact (Kd.R_reads' HO_5.out).2.1); rintro e w21 ⟨v334, rfl, ho0, hb⟩; refine ⟨_, rfl, ?_⟩; have n0_ := Aside0.mk (Kd.R_elder' (q8524_ HO_5.out) (Kd.R_base ho0) hb); have n1_ := Aside0.mk (Kd.R_below (q8524_ HO_6.out) hb); have n2_ := Aside0.mk (Kd.R_lower (Kd.R_new' ho0 (Kd.R_lt (q8524_ HO_5.out))) (below_size (qdb35_ HB.out))); have n3_ := Aside0.mk (below_step (qdb35_ HB.out) hb); clear HO_5; clear HO_6; clear HB; have HO_5 := n0_; have HO_6 := n1_; have HO335 := n2_; have HB := n3_; clear n0_ n1_ n2_ n3_; (try clear hb); (try clear hb2); (try clear hk); (try clear hi); (try clear ho0)))
      go_loopg [10, 11, 12] k1 (fun kq v10 v11 v12 w' => ∃ (x10_2 : Int) (x11_2 : Int) (x12_2 : Int), v10 = .int .i64 x10_2 ∧ v11 = .int .i64 x11_2 ∧ v12 = .int .i64 x12_2 ∧ Aside0 (caravanlaw2_SpansSlots.l1 kq a1 x5_1 x6_1 t333 x10_2 x11_2 x12_2 = some r) ∧ Aside0 (kq ≤ k1) ∧ Aside0 (Kd.R k31 31 w' w.heap.size (fun k_ => some k_ ≠ (v334 : Value).ownBlock) (.slice Ao20 x5_1.length co20) x5_1) ∧ Aside0 (Kd.R Kd.bool 4 w' w.heap.size (fun _ => True) v326 x6_1) ∧ Aside0 (Kd.R k31 31 w' w.heap.size (fun k_ => some k_ ≠ ((.slice Ao20 x5_1.length co20) : Value).ownBlock) v334 t333) ∧ Aside0 (Below w.heap.size w w'))
      case atStart => exact ⟨(0), (0), (1), (by first | rfl | (simp; done) | (simp [*]; done)), (by first | rfl | (simp; done) | (simp [*]; done)), (by first | rfl | (simp; done) | (simp [*]; done)), H', ⟨Nat.le_refl _⟩, ⟨by (with_reducible repeat (first | apply Kd.R_alloc | apply Kd.R_drewN | apply Kd.R_drew)); exact Kd.R_mono HO_5.out (fun _ hk => hk.2)⟩, ⟨by (with_reducible repeat (first | apply Kd.R_alloc | apply Kd.R_drewN | apply Kd.R_drew)); exact HO_6.out⟩, ⟨by (with_reducible repeat (first | apply Kd.R_alloc | apply Kd.R_drewN | apply Kd.R_drew)); exact Kd.R_mono HO335.out (fun _ hk => hk.2)⟩, ⟨(qdb35_ HB.out)⟩⟩
      case round =>
       clear H'
       try clear c1
       try clear p1
       try clear q1
       try clear hx1
       try clear p2
       try clear c3
       try clear c3b0
       try clear c3b1
       try clear p3
       try clear q3
       try clear hx3
       try clear c6
       try clear c6b0
       try clear c6b1
       try clear p6
       try clear c9
       try clear c9b0
       try clear c10
       try clear c10b0
       try clear c12
       try clear c12b0
       try clear c13
       try clear c13b0
       try clear p14
       try clear q14
       try clear hx14
       try clear hf14
       try clear c15
       try clear c16
       try clear hx14_0
       try clear hx328_0
       try clear p14
       try clear p2
       try clear p328
       try clear q14
       try clear q328
       obtain ⟨x10_2, x11_2, x12_2, rfl, rfl, rfl, HA, HK2, HO_5, HO_6, HO_9, HB⟩ := hrel
       cases gk with
       | zero => exact absurd HA.out (by simp [caravanlaw2_SpansSlots.l1])
       | succ k2 =>
        have H := HA.out
        clear HA
        simp only [caravanlaw2_SpansSlots.l1] at H
        by_cases c22 : x12_2 < 202
        ·rw [if_pos c22] at H
         have c22b0 : decide (x12_2 < 202) = true := decide_eq_true c22
         clear c22
         by_cases c23 : 0 ≤ x12_2
         ·rw [if_pos c23] at H
          have c23b0 : decide (0 ≤ x12_2) = true := decide_eq_true c23
          clear c23
          by_cases c24 : x12_2 < (x6_1.length : Int)
          ·rw [if_pos c24] at H
           have c24b0 : decide (x12_2 < (x6_1.length : Int)) = true := decide_eq_true c24
           clear c24
           obtain ⟨bq25, hbq25⟩ : ∃ b_ : Bool, b_ = (rdOf false x6_1 x12_2) := ⟨_, rfl⟩
           replace H : (if bq25 = true then (if 0 ≤ (wrap64 (x12_2 - 1)) then (if (wrap64 (x12_2 - 1)) < (x6_1.length : Int) then (if (rdOf false x6_1 (wrap64 (x12_2 - 1)) = true) then (caravanlaw2_SpansSlots.l1 k2 a1 x5_1 x6_1 t333 (wrap64 (x10_2 + 1)) x11_2 (wrap64 (x12_2 + 1))) else (caravanlaw2_SpansSlots.l1 k2 a1 x5_1 x6_1 t333 (wrap64 (x10_2 + 1)) (wrap64 (x11_2 + 1)) (wrap64 (x12_2 + 1)))) else (none)) else (none)) else (caravanlaw2_SpansSlots.l1 k2 a1 x5_1 x6_1 t333 x10_2 x11_2 (wrap64 (x12_2 + 1)))) = some r := by rw [← hbq25] at H; exact H
           have Nbq25 := Aside0.mk hbq25
           clear hbq25
           by_cases c26 : bq25 = true
           ·subst c26
            have H1 : (if 0 ≤ (wrap64 (x12_2 - 1)) then (if (wrap64 (x12_2 - 1)) < (x6_1.length : Int) then (if (rdOf false x6_1 (wrap64 (x12_2 - 1)) = true) then (caravanlaw2_SpansSlots.l1 k2 a1 x5_1 x6_1 t333 (wrap64 (x10_2 + 1)) x11_2 (wrap64 (x12_2 + 1))) else (caravanlaw2_SpansSlots.l1 k2 a1 x5_1 x6_1 t333 (wrap64 (x10_2 + 1)) (wrap64 (x11_2 + 1)) (wrap64 (x12_2 + 1)))) else (none)) else (none)) = some r := by rw [if_pos rfl] at H; exact H
            clear H
            have H := H1
            clear H1
            obtain ⟨ji27, hji27⟩ : ∃ j_ : Int, (wrap64 (x12_2 - 1)) = j_ := ⟨_, rfl⟩
            replace H : (if 0 ≤ (ji27) then (if (ji27) < (x6_1.length : Int) then (if (rdOf false x6_1 (ji27) = true) then (caravanlaw2_SpansSlots.l1 k2 a1 x5_1 x6_1 t333 (wrap64 (x10_2 + 1)) x11_2 (wrap64 (x12_2 + 1))) else (caravanlaw2_SpansSlots.l1 k2 a1 x5_1 x6_1 t333 (wrap64 (x10_2 + 1)) (wrap64 (x11_2 + 1)) (wrap64 (x12_2 + 1)))) else (none)) else (none)) = some r := by first | (rw [hji27] at H; exact H) | (simp only [hji27] at H ⊢; exact H)
            have hji27w : (IntKind.i64.wrap (x12_2 - 1)) = ji27 := (i64_w _).trans hji27
            by_cases c28 : 0 ≤ (ji27)
            ·rw [if_pos c28] at H
             have c28b0 : decide (0 ≤ (ji27)) = true := decide_eq_true c28
             clear c28
             by_cases c29 : (ji27) < (x6_1.length : Int)
             ·rw [if_pos c29] at H
              have c29b0 : decide ((ji27) < (x6_1.length : Int)) = true := decide_eq_true c29
              clear c29
              obtain ⟨bq30, hbq30⟩ : ∃ b_ : Bool, b_ = (rdOf false x6_1 (ji27)) := ⟨_, rfl⟩
              replace H : (if (bq30 = true) then (caravanlaw2_SpansSlots.l1 k2 a1 x5_1 x6_1 t333 (wrap64 (x10_2 + 1)) x11_2 (wrap64 (x12_2 + 1))) else (caravanlaw2_SpansSlots.l1 k2 a1 x5_1 x6_1 t333 (wrap64 (x10_2 + 1)) (wrap64 (x11_2 + 1)) (wrap64 (x12_2 + 1)))) = some r := by rw [← hbq30] at H; exact H
              have Nbq30 := Aside0.mk hbq30
              clear hbq30
              by_cases c31 : (bq30 = true)
              ·subst c31
               have H1 : (caravanlaw2_SpansSlots.l1 k2 a1 x5_1 x6_1 t333 (wrap64 (x10_2 + 1)) x11_2 (wrap64 (x12_2 + 1))) = some r := by rw [if_pos rfl] at H; exact H
               clear H
               have H := H1
               clear H1
               have H' := Aside0.mk H
               clear H
               obtain ⟨Ao32, co32, eo32⟩ := Kd.R_slice HO_6.out
               subst eo32
               have p336 : 0 ≤ (x12_2 : Int) := of_decide_eq_true (by first | (with_reducible assumption) | assumption)
               have q336 : x12_2 < (x6_1.length : Int) := of_decide_eq_true (by first | (with_reducible assumption) | assumption)
               obtain ⟨ad336, e336, hx336_0⟩ := Kd.at_bool (Kd.R_reads' HO_6.out).2.2 x12_2 p336 q336
               (try rw [← Nbq25.out] at hx336_0)
               (try rw [← Nbq30.out] at hx336_0)
               cases e336
               replace p336 := eq_true p336
               replace q336 := eq_true q336
               have p337 : 0 ≤ (x12_2 : Int) := of_decide_eq_true (by first | (with_reducible assumption) | assumption)
               have q337 : x12_2 < (x6_1.length : Int) := of_decide_eq_true (by first | (with_reducible assumption) | assumption)
               obtain ⟨ad337, e337, hx337_0⟩ := Kd.at_bool (Kd.R_reads' HO_6.out).2.2 x12_2 p337 q337
               (try rw [← Nbq25.out] at hx337_0)
               (try rw [← Nbq30.out] at hx337_0)
               obtain rfl : ad336 = ad337 := (by injection e337)
               replace p337 := eq_true p337
               replace q337 := eq_true q337
               have p338 : 0 ≤ ((ji27) : Int) := of_decide_eq_true (by first | (with_reducible assumption) | assumption)
               have q338 : (ji27) < (x6_1.length : Int) := of_decide_eq_true (by first | (with_reducible assumption) | assumption)
               obtain ⟨ad338, e338, hx338_0⟩ := Kd.at_bool (Kd.R_reads' HO_6.out).2.2 (ji27) p338 q338
               (try rw [← Nbq25.out] at hx338_0)
               (try rw [← Nbq30.out] at hx338_0)
               obtain rfl : ad336 = ad338 := (by injection e338)
               replace p338 := eq_true p338
               replace q338 := eq_true q338
               go_wp2
               go_roundg k2
               case measure => have := HK1.out; have := HK2.out; omega
               case rel => exact ⟨(wrap64 (x10_2 + 1)), (x11_2), (wrap64 (x12_2 + 1)), (by first | rfl | (simp; done) | (simp [*]; done)), (by first | rfl | (simp; done) | (simp [*]; done)), (by first | rfl | (simp; done) | (simp [*]; done)), H', ⟨by have := HK1.out; have := HK2.out; omega⟩, ⟨by (with_reducible repeat (first | apply Kd.R_alloc | apply Kd.R_drewN | apply Kd.R_drew)); exact HO_5.out⟩, ⟨by (with_reducible repeat (first | apply Kd.R_alloc | apply Kd.R_drewN | apply Kd.R_drew)); exact HO_6.out⟩, ⟨by (with_reducible repeat (first | apply Kd.R_alloc | apply Kd.R_drewN | apply Kd.R_drew)); exact HO_9.out⟩, ⟨(qdb35_ HB.out)⟩⟩
              ·replace c31 := Bool.eq_false_iff.mpr c31
               subst c31
               have H1 : (caravanlaw2_SpansSlots.l1 k2 a1 x5_1 x6_1 t333 (wrap64 (x10_2 + 1)) (wrap64 (x11_2 + 1)) (wrap64 (x12_2 + 1))) = some r := by rw [if_neg (show ¬ (false = true) by decide)] at H; exact H
               clear H
               have H := H1
               clear H1
               have H' := Aside0.mk H
               clear H
               obtain ⟨Ao33, co33, eo33⟩ := Kd.R_slice HO_6.out
               subst eo33
               have p336 : 0 ≤ (x12_2 : Int) := of_decide_eq_true (by first | (with_reducible assumption) | assumption)
               have q336 : x12_2 < (x6_1.length : Int) := of_decide_eq_true (by first | (with_reducible assumption) | assumption)
               obtain ⟨ad336, e336, hx336_0⟩ := Kd.at_bool (Kd.R_reads' HO_6.out).2.2 x12_2 p336 q336
               (try rw [← Nbq25.out] at hx336_0)
               (try rw [← Nbq30.out] at hx336_0)
               cases e336
               replace p336 := eq_true p336
               replace q336 := eq_true q336
               have p337 : 0 ≤ (x12_2 : Int) := of_decide_eq_true (by first | (with_reducible assumption) | assumption)
               have q337 : x12_2 < (x6_1.length : Int) := of_decide_eq_true (by first | (with_reducible assumption) | assumption)
               obtain ⟨ad337, e337, hx337_0⟩ := Kd.at_bool (Kd.R_reads' HO_6.out).2.2 x12_2 p337 q337
               (try rw [← Nbq25.out] at hx337_0)
               (try rw [← Nbq30.out] at hx337_0)
               obtain rfl : ad336 = ad337 := (by injection e337)
               replace p337 := eq_true p337
               replace q337 := eq_true q337
               have p338 : 0 ≤ ((ji27) : Int) := of_decide_eq_true (by first | (with_reducible assumption) | assumption)
               have q338 : (ji27) < (x6_1.length : Int) := of_decide_eq_true (by first | (with_reducible assumption) | assumption)
               obtain ⟨ad338, e338, hx338_0⟩ := Kd.at_bool (Kd.R_reads' HO_6.out).2.2 (ji27) p338 q338
               (try rw [← Nbq25.out] at hx338_0)
               (try rw [← Nbq30.out] at hx338_0)
               obtain rfl : ad336 = ad338 := (by injection e338)
               replace p338 := eq_true p338
               replace q338 := eq_true q338
               go_wp2
               go_roundg k2
               case measure => have := HK1.out; have := HK2.out; omega
               case rel => exact ⟨(wrap64 (x10_2 + 1)), (wrap64 (x11_2 + 1)), (wrap64 (x12_2 + 1)), (by first | rfl | (simp; done) | (simp [*]; done)), (by first | rfl | (simp; done) | (simp [*]; done)), (by first | rfl | (simp; done) | (simp [*]; done)), H', ⟨by have := HK1.out; have := HK2.out; omega⟩, ⟨by (with_reducible repeat (first | apply Kd.R_alloc | apply Kd.R_drewN | apply Kd.R_drew)); exact HO_5.out⟩, ⟨by (with_reducible repeat (first | apply Kd.R_alloc | apply Kd.R_drewN | apply Kd.R_drew)); exact HO_6.out⟩, ⟨by (with_reducible repeat (first | apply Kd.R_alloc | apply Kd.R_drewN | apply Kd.R_drew)); exact HO_9.out⟩, ⟨(qdb35_ HB.out)⟩⟩
             ·rw [if_neg c29] at H
              exact absurd H (by simp)
            ·rw [if_neg c28] at H
             exact absurd H (by simp)
           ·replace c26 := Bool.eq_false_iff.mpr c26
            subst c26
            have H1 : (caravanlaw2_SpansSlots.l1 k2 a1 x5_1 x6_1 t333 x10_2 x11_2 (wrap64 (x12_2 + 1))) = some r := by rw [if_neg (show ¬ (false = true) by decide)] at H; exact H
            clear H
            have H := H1
            clear H1
            have H' := Aside0.mk H
            clear H
            obtain ⟨Ao34, co34, eo34⟩ := Kd.R_slice HO_6.out
            subst eo34
            have p336 : 0 ≤ (x12_2 : Int) := of_decide_eq_true (by first | (with_reducible assumption) | assumption)
            have q336 : x12_2 < (x6_1.length : Int) := of_decide_eq_true (by first | (with_reducible assumption) | assumption)
            obtain ⟨ad336, e336, hx336_0⟩ := Kd.at_bool (Kd.R_reads' HO_6.out).2.2 x12_2 p336 q336
            (try rw [← Nbq25.out] at hx336_0)
            cases e336
            replace p336 := eq_true p336
            replace q336 := eq_true q336
            have p339 : 0 ≤ (x12_2 : Int) := of_decide_eq_true (by first | (with_reducible assumption) | assumption)
            have q339 : x12_2 < (x6_1.length : Int) := of_decide_eq_true (by first | (with_reducible assumption) | assumption)
            obtain ⟨ad339, e339, hx339_0⟩ := Kd.at_bool (Kd.R_reads' HO_6.out).2.2 x12_2 p339 q339
            (try rw [← Nbq25.out] at hx339_0)
            obtain rfl : ad336 = ad339 := (by injection e339)
            replace p339 := eq_true p339
            replace q339 := eq_true q339
            go_wp2
            go_roundg k2
            case measure => have := HK1.out; have := HK2.out; omega
            case rel => exact ⟨(x10_2), (x11_2), (wrap64 (x12_2 + 1)), (by first | rfl | (simp; done) | (simp [*]; done)), (by first | rfl | (simp; done) | (simp [*]; done)), (by first | rfl | (simp; done) | (simp [*]; done)), H', ⟨by have := HK1.out; have := HK2.out; omega⟩, ⟨by (with_reducible repeat (first | apply Kd.R_alloc | apply Kd.R_drewN | apply Kd.R_drew)); exact HO_5.out⟩, ⟨by (with_reducible repeat (first | apply Kd.R_alloc | apply Kd.R_drewN | apply Kd.R_drew)); exact HO_6.out⟩, ⟨by (with_reducible repeat (first | apply Kd.R_alloc | apply Kd.R_drewN | apply Kd.R_drew)); exact HO_9.out⟩, ⟨(qdb35_ HB.out)⟩⟩
          ·rw [if_neg c24] at H
           exact absurd H (by simp)
         ·rw [if_neg c23] at H
          exact absurd H (by simp)
        ·rw [if_neg c22] at H
         have c22b0 : decide (x12_2 < 202) = false := decide_eq_false c22
         clear c22
         replace H := Option.bind_eq_some_iff.mp H
         obtain ⟨t340, A350, H⟩ := H
         replace H : (if t340 = x10_2 then (if (t333.length : Int) = x11_2 then ((spans_Has.f x5_1 (Int.tmod (wrap64 (a1)) 200)).bind fun t341 => (if 0 ≤ (wrap64 ((Int.tmod (wrap64 (a1)) 200) + 1)) then (if (wrap64 ((Int.tmod (wrap64 (a1)) 200) + 1)) < (x6_1.length : Int) then (if (t341 == (rdOf false x6_1 (wrap64 ((Int.tmod (wrap64 (a1)) 200) + 1)))) = true then ((spans_Has.f t333 (Int.tmod (wrap64 (a1)) 200)).bind fun t343 => (if (t343 == (rdOf false x6_1 (wrap64 ((Int.tmod (wrap64 (a1)) 200) + 1)))) = true then ((spans_Has.f x5_1 (-1)).bind fun t345 => (if t345 = true then (some false) else ((spans_Has.f x5_1 16384).bind fun t346 => (if t346 = true then (some false) else ((caravanlaw2_awake.f k2).bind fun t347 => (some t347)))))) else (some false))) else (some false)) else (none)) else (none))) else (some false)) else (some false)) = some r := H
         have A35 := Aside0.mk A350
         clear A350
         by_cases c36 : t340 = x10_2
         ·rw [if_pos c36] at H
          have c36b0 : (t340 == x10_2) = true := beq_iff_eq.mpr c36
          have c36b1 : (t340 != x10_2) = false := bne_eq_false_iff_eq.mpr c36
          clear c36
          by_cases c37 : (t333.length : Int) = x11_2
          ·rw [if_pos c37] at H
           have c37b0 : ((t333.length : Int) == x11_2) = true := beq_iff_eq.mpr c37
           have c37b1 : ((t333.length : Int) != x11_2) = false := bne_eq_false_iff_eq.mpr c37
           clear c37
           replace H := Option.bind_eq_some_iff.mp H
           obtain ⟨t341, A380, H⟩ := H
           replace H : (if 0 ≤ (wrap64 ((Int.tmod (wrap64 (a1)) 200) + 1)) then (if (wrap64 ((Int.tmod (wrap64 (a1)) 200) + 1)) < (x6_1.length : Int) then (if (t341 == (rdOf false x6_1 (wrap64 ((Int.tmod (wrap64 (a1)) 200) + 1)))) = true then ((spans_Has.f t333 (Int.tmod (wrap64 (a1)) 200)).bind fun t343 => (if (t343 == (rdOf false x6_1 (wrap64 ((Int.tmod (wrap64 (a1)) 200) + 1)))) = true then ((spans_Has.f x5_1 (-1)).bind fun t345 => (if t345 = true then (some false) else ((spans_Has.f x5_1 16384).bind fun t346 => (if t346 = true then (some false) else ((caravanlaw2_awake.f k2).bind fun t347 => (some t347)))))) else (some false))) else (some false)) else (none)) else (none)) = some r := H
           have A38 := Aside0.mk A380
           clear A380
           obtain ⟨ji39, hji39⟩ : ∃ j_ : Int, (wrap64 ((Int.tmod (wrap64 (a1)) 200) + 1)) = j_ := ⟨_, rfl⟩
           replace H : (if 0 ≤ (ji39) then (if (ji39) < (x6_1.length : Int) then (if (t341 == (rdOf false x6_1 (ji39))) = true then ((spans_Has.f t333 (Int.tmod (wrap64 (a1)) 200)).bind fun t343 => (if (t343 == (rdOf false x6_1 (ji39))) = true then ((spans_Has.f x5_1 (-1)).bind fun t345 => (if t345 = true then (some false) else ((spans_Has.f x5_1 16384).bind fun t346 => (if t346 = true then (some false) else ((caravanlaw2_awake.f k2).bind fun t347 => (some t347)))))) else (some false))) else (some false)) else (none)) else (none)) = some r := by first | (rw [hji39] at H; exact H) | (simp only [hji39] at H ⊢; exact H)
           (try rw [hji39] at A35)
           (try rw [hji39] at A38)
           have hji39w : (IntKind.i64.wrap ((Int.tmod (wrap64 (a1)) 200) + 1)) = ji39 := (i64_w _).trans hji39
           by_cases c40 : 0 ≤ (ji39)
           ·rw [if_pos c40] at H
            have c40b0 : decide (0 ≤ (ji39)) = true := decide_eq_true c40
            clear c40
            by_cases c41 : (ji39) < (x6_1.length : Int)
            ·rw [if_pos c41] at H
             have c41b0 : decide ((ji39) < (x6_1.length : Int)) = true := decide_eq_true c41
             clear c41
             by_cases c42 : (t341 == (rdOf false x6_1 (ji39))) = true
             ·rw [if_pos c42] at H
              have c42b0 : (t341 == (rdOf false x6_1 (ji39))) = true := c42
              (try (have c42b1 : decide (t341 = (rdOf false x6_1 (ji39))) = true := by simpa using c42))
              (try (have c42b2 : (t341 == (rdOf false x6_1 (ji39))) = true := by simpa using c42))
              clear c42
              replace H := Option.bind_eq_some_iff.mp H
              obtain ⟨t343, A430, H⟩ := H
              replace H : (if (t343 == (rdOf false x6_1 (ji39))) = true then ((spans_Has.f x5_1 (-1)).bind fun t345 => (if t345 = true then (some false) else ((spans_Has.f x5_1 16384).bind fun t346 => (if t346 = true then (some false) else ((caravanlaw2_awake.f k2).bind fun t347 => (some t347)))))) else (some false)) = some r := H
              have A43 := Aside0.mk A430
              clear A430
              by_cases c44 : (t343 == (rdOf false x6_1 (ji39))) = true
              ·rw [if_pos c44] at H
               have c44b0 : (t343 == (rdOf false x6_1 (ji39))) = true := c44
               (try (have c44b1 : decide (t343 = (rdOf false x6_1 (ji39))) = true := by simpa using c44))
               (try (have c44b2 : (t343 == (rdOf false x6_1 (ji39))) = true := by simpa using c44))
               clear c44
               replace H := Option.bind_eq_some_iff.mp H
               obtain ⟨t345, A450, H⟩ := H
               replace H : (if t345 = true then (some false) else ((spans_Has.f x5_1 16384).bind fun t346 => (if t346 = true then (some false) else ((caravanlaw2_awake.f k2).bind fun t347 => (some t347))))) = some r := H
               have A45 := Aside0.mk A450
               clear A450
               by_cases c46 : t345 = true
               ·subst c46
                have H1 : (some false) = some r := by rw [if_pos rfl] at H; exact H
                clear H
                have H := H1
                clear H1
                subst hrt_; exact absurd H (by simp)
               ·replace c46 := Bool.eq_false_iff.mpr c46
                subst c46
                have H1 : ((spans_Has.f x5_1 16384).bind fun t346 => (if t346 = true then (some false) else ((caravanlaw2_awake.f k2).bind fun t347 => (some t347)))) = some r := by rw [if_neg (show ¬ (false = true) by decide)] at H; exact H
                clear H
                have H := H1
                clear H1
                replace H := Option.bind_eq_some_iff.mp H
                obtain ⟨t346, A470, H⟩ := H
                replace H : (if t346 = true then (some false) else ((caravanlaw2_awake.f k2).bind fun t347 => (some t347))) = some r := H
                have A47 := Aside0.mk A470
                clear A470
                by_cases c48 : t346 = true
                ·subst c48
                 have H1 : (some false) = some r := by rw [if_pos rfl] at H; exact H
                 clear H
                 have H := H1
                 clear H1
                 subst hrt_; exact absurd H (by simp)
                ·replace c48 := Bool.eq_false_iff.mpr c48
                 subst c48
                 have H1 : ((caravanlaw2_awake.f k2).bind fun t347 => (some t347)) = some r := by rw [if_neg (show ¬ (false = true) by decide)] at H; exact H
                 clear H
                 have H := H1
                 clear H1
                 replace H := Option.bind_eq_some_iff.mp H
                 obtain ⟨t347, A490, H⟩ := H
                 replace H : (some t347) = some r := H
                 have A49 := Aside0.mk A490
                 clear A490
                 obtain rfl := Option.some.inj H
                 try go_wp2
                 have n0_ := Aside0.mk (Kd.R_drew HO_5.out)
                 have n1_ := Aside0.mk (Kd.R_drew HO_6.out)
                 have n2_ := Aside0.mk (Kd.R_drew HO_9.out)
                 have n3_ := Aside0.mk (below_drew1 HB.out)
                 clear HO_5
                 clear HO_6
                 clear HO_9
                 clear HB
                 have HO_5 := n0_
                 have HO_6 := n1_
                 have HO_9 := n2_
                 have HB := n3_
                 clear n0_ n1_ n2_ n3_
                 obtain ⟨Ao99_, co99_, eo99_⟩ := Kd.R_slice HO_6.out
                 subst eo99_
                 have p342 : 0 ≤ ((ji39) : Int) := of_decide_eq_true (by first | (with_reducible assumption) | assumption)
                 have q342 : (ji39) < (x6_1.length : Int) := of_decide_eq_true (by first | (with_reducible assumption) | assumption)
                 obtain ⟨ad342, e342, hx342_0⟩ := Kd.at_bool (Kd.R_reads' HO_6.out).2.2 (ji39) p342 q342
                 cases e342
                 replace p342 := eq_true p342
                 replace q342 := eq_true q342
                 have p344 : 0 ≤ ((ji39) : Int) := of_decide_eq_true (by first | (with_reducible assumption) | assumption)
                 have q344 : (ji39) < (x6_1.length : Int) := of_decide_eq_true (by first | (with_reducible assumption) | assumption)
                 obtain ⟨ad344, e344, hx344_0⟩ := Kd.at_bool (Kd.R_reads' HO_6.out).2.2 (ji39) p344 q344
                 obtain rfl : ad342 = ad344 := (by injection e344)
                 replace p344 := eq_true p344
                 replace q344 := eq_true q344
                 refine start_ (n := 46) (S := fun w' => w'.cell? (ad342.add ((ji39)).toNat) = some (.bool (rdOf false x6_1 (ji39))) ∧ w'.cell? (ad342.add ((ji39)).toNat) = some (.bool (rdOf false x6_1 (ji39)))) (ds := []) (ml_ 46 0) (by kernel_rfl) rfl rfl ⟨hx342_0, hx344_0⟩ (fun hHeld => ?_); refine with_tabW caravanlaw2_SpansSlots.tab21 caravanlaw2_SpansSlots.bits21 (fun HT_ HW_ => ?_)
                 generalize wr.drew = w50 at HO_5 HO_6 HO_9 HB hx342_0 hx344_0 hHeld ⊢
                 refine pA_ 0 70 (ml_ 46 1) rfl rfl HT_.out ?_
                 refine pA_ 2 72 (ml_ 46 5) rfl rfl HT_.out ?_
                 refine one_ (i := 1) (N := some 71) (ml_ 46 7) rfl rfl (one_of HT_.out (by kernel_rfl)) (by decide) (fun K hK => ?_)
                 refine goes_ Tryd.func20 (by kernel_rfl) rfl #[.slice Ao20 x5_1.length co20] (by rfl) rfl rfl qM_ ?_
                 with_reducible refine (spans_Count.calls k2 _ _ x5_1 t340 _ ?side1 ?side2 A35.out).mono ?_
                 (case side1 => exact qC_ ((Kd.R_reads' HO_5.out).2.2))
                 (case side2 => exact (Kd.R_reads' HO_5.out).2.1)
                 rintro e w51 ⟨rfl, hb⟩
                 have HS0_ := (hb.cell (World.block_lt_of_cell? _ _ (hHeld.1))).trans (hHeld.1)
                 have HS1_ := (hb.cell (World.block_lt_of_cell? _ _ (hHeld.2))).trans (hHeld.2)
                 refine ⟨_, rfl, ?_⟩
                 have n0_ := Aside0.mk (Kd.R_below (q8524_ HO_5.out) hb)
                 have n1_ := Aside0.mk (Kd.R_below (q8524_ HO_6.out) hb)
                 have n2_ := Aside0.mk (Kd.R_below (q8524_ HO_9.out) hb)
                 have n3_ := Aside0.mk (below_step (qdb35_ HB.out) hb)
                 clear HO_5
                 clear HO_6
                 clear HO_9
                 clear HB
                 have HO_5 := n0_
                 have HO_6 := n1_
                 have HO_9 := n2_
                 have HB := n3_
                 clear n0_ n1_ n2_ n3_
                 (try clear hb)
                 (try clear hb2)
                 (try clear hk)
                 (try clear hi)
                 obtain ⟨Ao52, co52, eo52⟩ := Kd.R_slice HO_9.out
                 (first | subst eo52 | (injection eo52 with f1_ f2_ f3_; have f4_ := f1_.symm; have f5_ := f3_.symm; clear f1_ f2_ f3_; subst f4_; subst f5_))
                 refine hK.out _ _ ⟨HS0_, HS1_⟩ (fun hHeld => ?_)
                 clear hK K
                 refine nA_ 71 ?_
                 refine pA_ 3 73 (ml_ 46 15) rfl rfl HT_.out ?_
                 refine pA_ 4 74 (ml_ 46 31) rfl rfl HT_.out ?_
                 refine pA_ 5 75 (ml_ 46 63) rfl rfl HT_.out ?_
                 refine pA_ 6 76 (ml_ 46 127) rfl rfl HT_.out ?_
                 refine pA_ 7 77 (ml_ 46 255) rfl rfl HT_.out ?_
                 refine pA_ 8 78 (ml_ 46 511) rfl rfl HT_.out ?_
                 refine pA_ 9 79 (ml_ 46 1023) rfl rfl HT_.out ?_
                 refine pA_ 10 80 (ml_ 46 2047) rfl rfl HT_.out ?_
                 refine pA_ 11 81 (ml_ 46 4095) rfl rfl HT_.out ?_
                 refine pA_ 12 82 (ml_ 46 8191) rfl rfl HT_.out ?_
                 refine pA_ 14 84 (ml_ 46 24575) rfl rfl HT_.out ?_
                 refine pA_ 15 85 (ml_ 46 57343) rfl rfl HT_.out ?_
                 refine pA_ 16 86 (ml_ 46 122879) rfl rfl HT_.out ?_
                 refine pA_ 17 87 (ml_ 46 253951) rfl rfl HT_.out ?_
                 refine t2_ 18 88 (ml_ 46 516095) rfl rfl HT_.out HW_.out hHeld ?_
                 refine one_ (i := 13) (N := some 83) (ml_ 46 524287) rfl rfl (one_of HT_.out (by kernel_rfl)) (by decide) (fun K hK => ?_)
                 refine goes_ Tryd.func18 (by kernel_rfl) rfl #[.slice Ao20 x5_1.length co20, .int .i64 (Int.tmod (wrap64 (a1)) 200)] (by rfl) rfl rfl qM_ ?_
                 with_reducible refine (spans_Has.calls _ _ x5_1 (Int.tmod (wrap64 (a1)) 200) t341 _ ?side1 ?side2 A38.out).mono ?_
                 (case side1 => exact qC_ ((Kd.R_reads' HO_5.out).2.2))
                 (case side2 => exact (Kd.R_reads' HO_5.out).2.1)
                 rintro e w53 ⟨rfl, hb⟩
                 have HS0_ := (hb.cell (World.block_lt_of_cell? _ _ (hHeld.1))).trans (hHeld.1)
                 have HS1_ := (hb.cell (World.block_lt_of_cell? _ _ (hHeld.2))).trans (hHeld.2)
                 refine ⟨_, rfl, ?_⟩
                 have n0_ := Aside0.mk (Kd.R_below (q8524_ HO_5.out) hb)
                 have n1_ := Aside0.mk (Kd.R_below (q8524_ HO_6.out) hb)
                 have n2_ := Aside0.mk (Kd.R_below (q8524_ HO_9.out) hb)
                 have n3_ := Aside0.mk (below_step (qdb35_ HB.out) hb)
                 clear HO_5
                 clear HO_6
                 clear HO_9
                 clear HB
                 have HO_5 := n0_
                 have HO_6 := n1_
                 have HO_9 := n2_
                 have HB := n3_
                 clear n0_ n1_ n2_ n3_
                 (try clear hb)
                 (try clear hb2)
                 (try clear hk)
                 (try clear hi)
                 obtain ⟨Ao54, co54, eo54⟩ := Kd.R_slice HO_6.out
                 (first | subst eo54 | (injection eo54 with f1_ f2_ f3_; have f4_ := f1_.symm; have f5_ := f3_.symm; clear f1_ f2_ f3_; subst f4_; subst f5_))
                 refine hK.out _ _ ⟨HS0_, HS1_⟩ (fun hHeld => ?_)
                 clear hK K
                 refine nA_ 83 ?_
                 refine pA_ 19 89 (ml_ 46 1048575) rfl rfl HT_.out ?_
                 refine pA_ 20 90 (ml_ 46 2097151) rfl rfl HT_.out ?_
                 refine pA_ 21 91 (ml_ 46 4194303) rfl rfl HT_.out ?_
                 refine pA_ 22 92 (ml_ 46 8388607) rfl rfl HT_.out ?_
                 refine pA_ 23 93 (ml_ 46 16777215) rfl rfl HT_.out ?_
                 refine pA_ 25 95 (ml_ 46 50331647) rfl rfl HT_.out ?_
                 refine pA_ 26 96 (ml_ 46 117440511) rfl rfl HT_.out ?_
                 refine pA_ 27 97 (ml_ 46 251658239) rfl rfl HT_.out ?_
                 refine pA_ 28 98 (ml_ 46 520093695) rfl rfl HT_.out ?_
                 refine t2_ 29 99 (ml_ 46 1056964607) rfl rfl HT_.out HW_.out hHeld ?_
                 refine one_ (i := 24) (N := some 94) (ml_ 46 1073741823) rfl rfl (one_of HT_.out (by kernel_rfl)) (by decide) (fun K hK => ?_)
                 refine goes_ Tryd.func18 (by kernel_rfl) rfl #[.slice Ao52 t333.length co52, .int .i64 (Int.tmod (wrap64 (a1)) 200)] (by rfl) rfl rfl qM_ ?_
                 with_reducible refine (spans_Has.calls _ _ t333 (Int.tmod (wrap64 (a1)) 200) t343 _ ?side1 ?side2 A43.out).mono ?_
                 (case side1 => exact qC_ ((Kd.R_reads' HO_9.out).2.2))
                 (case side2 => exact (Kd.R_reads' HO_9.out).2.1)
                 rintro e w55 ⟨rfl, hb⟩
                 have HS0_ := (hb.cell (World.block_lt_of_cell? _ _ (hHeld.1))).trans (hHeld.1)
                 have HS1_ := (hb.cell (World.block_lt_of_cell? _ _ (hHeld.2))).trans (hHeld.2)
                 refine ⟨_, rfl, ?_⟩
                 have n0_ := Aside0.mk (Kd.R_below (q8524_ HO_5.out) hb)
                 have n1_ := Aside0.mk (Kd.R_below (q8524_ HO_6.out) hb)
                 have n2_ := Aside0.mk (Kd.R_below (q8524_ HO_9.out) hb)
                 have n3_ := Aside0.mk (below_step (qdb35_ HB.out) hb)
                 clear HO_5
                 clear HO_6
                 clear HO_9
                 clear HB
                 have HO_5 := n0_
                 have HO_6 := n1_
                 have HO_9 := n2_
                 have HB := n3_
                 clear n0_ n1_ n2_ n3_
                 (try clear hb)
                 (try clear hb2)
                 (try clear hk)
                 (try clear hi)
                 refine hK.out _ _ ⟨HS0_, HS1_⟩ (fun hHeld => ?_)
                 clear hK K
                 refine nA_ 94 ?_
                 refine pA_ 30 100 (ml_ 46 2147483647) rfl rfl HT_.out ?_
                 refine pA_ 31 101 (ml_ 46 4294967295) rfl rfl HT_.out ?_
                 refine pA_ 32 102 (ml_ 46 8589934591) rfl rfl HT_.out ?_
                 refine pA_ 33 103 (ml_ 46 17179869183) rfl rfl HT_.out ?_
                 refine one_ (i := 34) (N := some 104) (ml_ 46 34359738367) rfl rfl (one_of HT_.out (by kernel_rfl)) (by decide) (fun K hK => ?_)
                 refine goes_ Tryd.func18 (by kernel_rfl) rfl #[.slice Ao20 x5_1.length co20, .int .i64 (-1)] (by rfl) rfl rfl qM_ ?_
                 with_reducible refine (spans_Has.calls _ _ x5_1 (-1) false _ ?side1 ?side2 A45.out).mono ?_
                 (case side1 => exact qC_ ((Kd.R_reads' HO_5.out).2.2))
                 (case side2 => exact (Kd.R_reads' HO_5.out).2.1)
                 rintro e w56 ⟨rfl, hb⟩
                 have HS0_ := (hb.cell (World.block_lt_of_cell? _ _ (hHeld.1))).trans (hHeld.1)
                 have HS1_ := (hb.cell (World.block_lt_of_cell? _ _ (hHeld.2))).trans (hHeld.2)
                 refine ⟨_, rfl, ?_⟩
                 have n0_ := Aside0.mk (Kd.R_below (q8524_ HO_5.out) hb)
                 have n1_ := Aside0.mk (Kd.R_below (q8524_ HO_6.out) hb)
                 have n2_ := Aside0.mk (Kd.R_below (q8524_ HO_9.out) hb)
                 have n3_ := Aside0.mk (below_step (qdb35_ HB.out) hb)
                 clear HO_5
                 clear HO_6
                 clear HO_9
                 clear HB
                 have HO_5 := n0_
                 have HO_6 := n1_
                 have HO_9 := n2_
                 have HB := n3_
                 clear n0_ n1_ n2_ n3_
                 (try clear hb)
                 (try clear hb2)
                 (try clear hk)
                 (try clear hi)
                 refine hK.out _ _ ⟨HS0_, HS1_⟩ (fun hHeld => ?_)
                 clear hK K
                 refine nA_ 104 ?_
                 refine pA_ 35 105 (ml_ 46 68719476735) rfl rfl HT_.out ?_
                 refine pA_ 36 106 (ml_ 46 137438953471) rfl rfl HT_.out ?_
                 refine pA_ 37 107 (ml_ 46 274877906943) rfl rfl HT_.out ?_
                 refine pA_ 38 108 (ml_ 46 549755813887) rfl rfl HT_.out ?_
                 refine one_ (i := 39) (N := some 109) (ml_ 46 1099511627775) rfl rfl (one_of HT_.out (by kernel_rfl)) (by decide) (fun K hK => ?_)
                 refine goes_ Tryd.func18 (by kernel_rfl) rfl #[.slice Ao20 x5_1.length co20, .int .i64 16384] (by rfl) rfl rfl qM_ ?_
                 with_reducible refine (spans_Has.calls _ _ x5_1 16384 false _ ?side1 ?side2 A47.out).mono ?_
                 (case side1 => exact qC_ ((Kd.R_reads' HO_5.out).2.2))
                 (case side2 => exact (Kd.R_reads' HO_5.out).2.1)
                 rintro e w57 ⟨rfl, hb⟩
                 have HS0_ := (hb.cell (World.block_lt_of_cell? _ _ (hHeld.1))).trans (hHeld.1)
                 have HS1_ := (hb.cell (World.block_lt_of_cell? _ _ (hHeld.2))).trans (hHeld.2)
                 refine ⟨_, rfl, ?_⟩
                 have n0_ := Aside0.mk (Kd.R_below (q8524_ HO_5.out) hb)
                 have n1_ := Aside0.mk (Kd.R_below (q8524_ HO_6.out) hb)
                 have n2_ := Aside0.mk (Kd.R_below (q8524_ HO_9.out) hb)
                 have n3_ := Aside0.mk (below_step (qdb35_ HB.out) hb)
                 clear HO_5
                 clear HO_6
                 clear HO_9
                 clear HB
                 have HO_5 := n0_
                 have HO_6 := n1_
                 have HO_9 := n2_
                 have HB := n3_
                 clear n0_ n1_ n2_ n3_
                 (try clear hb)
                 (try clear hb2)
                 (try clear hk)
                 (try clear hi)
                 refine hK.out _ _ ⟨HS0_, HS1_⟩ (fun hHeld => ?_)
                 clear hK K
                 refine nA_ 109 ?_
                 refine pA_ 40 110 (ml_ 46 2199023255551) rfl rfl HT_.out ?_
                 refine pA_ 41 111 (ml_ 46 4398046511103) rfl rfl HT_.out ?_
                 refine pA_ 42 112 (ml_ 46 8796093022207) rfl rfl HT_.out ?_
                 refine one_ (i := 43) (N := some 113) (ml_ 46 17592186044415) rfl rfl (one_of HT_.out (by kernel_rfl)) (by decide) (fun K hK => ?_)
                 refine goes_ Tryd.func9 (by kernel_rfl) rfl #[] (by rfl) rfl rfl qM_ ?_
                 with_reducible refine (caravanlaw2_awake.calls k2  t347 _ A49.out (Wd.of hWd_ (qdb35_ HB.out))).mono ?_
                 rintro e w58 ⟨rfl, hb⟩
                 have HS0_ := (hb.cell (World.block_lt_of_cell? _ _ (hHeld.1))).trans (hHeld.1)
                 have HS1_ := (hb.cell (World.block_lt_of_cell? _ _ (hHeld.2))).trans (hHeld.2)
                 refine ⟨_, rfl, ?_⟩
                 have n0_ := Aside0.mk (Kd.R_below (q8524_ HO_5.out) hb)
                 have n1_ := Aside0.mk (Kd.R_below (q8524_ HO_6.out) hb)
                 have n2_ := Aside0.mk (Kd.R_below (q8524_ HO_9.out) hb)
                 have n3_ := Aside0.mk (below_step (qdb35_ HB.out) hb)
                 clear HO_5
                 clear HO_6
                 clear HO_9
                 clear HB
                 have HO_5 := n0_
                 have HO_6 := n1_
                 have HO_9 := n2_
                 have HB := n3_
                 clear n0_ n1_ n2_ n3_
                 (try clear hb)
                 (try clear hb2)
                 (try clear hk)
                 (try clear hi)
                 refine hK.out _ _ ⟨HS0_, HS1_⟩ (fun hHeld => ?_)
                 clear hK K
                 refine nA_ 113 ?_
                 refine pA_ 44 114 (ml_ 46 35184372088831) rfl rfl HT_.out ?_
                 refine pA_ 45 4 (ml_ 46 70368744177663) rfl rfl HT_.out ?_
                 refine done_ (done_of HT_.out (by kernel_rfl)) ?_
                 try go_wp2
                 go_ret
                 exact ⟨by first | rfl | (simp [errW_none, errW_some] <;> rfl) | (simp only [← hji39]; first | rfl | (simp [errW_none, errW_some] <;> rfl)) | (simp [*, errW_none, errW_some] <;> rfl), (qdb35_ HB.out)⟩
              ·rw [if_neg c44] at H
               have c44b0 : (t343 == (rdOf false x6_1 (ji39))) = false := by simpa using c44
               (try (have c44b1 : decide (t343 = (rdOf false x6_1 (ji39))) = false := by simpa using c44))
               (try (have c44b2 : (t343 == (rdOf false x6_1 (ji39))) = false := by simpa using c44))
               (try (have c44b3 : ¬ (t343 = (rdOf false x6_1 (ji39))) := by simpa using c44))
               clear c44
               subst hrt_; exact absurd H (by simp)
             ·rw [if_neg c42] at H
              have c42b0 : (t341 == (rdOf false x6_1 (ji39))) = false := by simpa using c42
              (try (have c42b1 : decide (t341 = (rdOf false x6_1 (ji39))) = false := by simpa using c42))
              (try (have c42b2 : (t341 == (rdOf false x6_1 (ji39))) = false := by simpa using c42))
              (try (have c42b3 : ¬ (t341 = (rdOf false x6_1 (ji39))) := by simpa using c42))
              clear c42
              subst hrt_; exact absurd H (by simp)
            ·rw [if_neg c41] at H
             exact absurd H (by simp)
           ·rw [if_neg c40] at H
            exact absurd H (by simp)
          ·rw [if_neg c37] at H
           have c37b0 : ((t333.length : Int) == x11_2) = false := beq_eq_false_iff_ne.mpr c37
           have c37b1 : ((t333.length : Int) != x11_2) = true := bne_iff_ne.mpr c37
           subst hrt_; exact absurd H (by simp)
         ·rw [if_neg c36] at H
          have c36b0 : (t340 == x10_2) = false := beq_eq_false_iff_ne.mpr c36
          have c36b1 : (t340 != x10_2) = true := bne_iff_ne.mpr c36
          subst hrt_; exact absurd H (by simp)
  ·rw [if_neg c6] at H
   exact absurd H (by simp)

/-- THE ONE PURE STATEMENT of caravanlaw2_SpansSlots: yours. -/
def caravanlaw2_SpansSlots.Pure : Prop := ∀ (l0 : List Int) (a1 : Int), l0.length ≤ maxLen → l0.length * 2 ≤ 140737488351232 → (∀ x ∈ l0, (Lit.int .u16 x).wf = true) → (Lit.int .u16 a1).wf = true → ∃ k, caravanlaw2_SpansSlots.f k l0 a1 = some true
theorem caravanlaw2_SpansSlots.walk (P : caravanlaw2_SpansSlots.Pure) (a0 : Option Addr) (len0 cap0 : Nat) (z0 : List Int) (a1 : Int) (w : World) (hWd_ : Wd w) (w0 : (a0 = none ∧ len0 = 0 ∧ cap0 = 0 ∧ z0 = []) ∨ ∃ x, a0 = some x ∧ len0 ≤ cap0 ∧ cap0 ≤ maxLen ∧ z0.length = cap0 ∧ (∀ i, i < z0.length → w.cell? (x.add i) = some (.int .u16 (z0.getD i 0))) ∧ ∀ n ∈ z0, (Lit.int .u16 n).wf = true) (y0 : len0 * 2 ≤ 140737488351232) (w1 : (Lit.int .u16 a1).wf = true) :
 Calls Tryd.prog 6 #[.slice a0 len0 cap0, .int .u16 a1] w fun e w' => e = .returned (.bool true) ∧ Below w.heap.size w w' := by
 obtain ⟨l0, rfl, hr0, hm0, hw0, hc0⟩ := ReadsInt.ofRowC w0
 obtain ⟨k, h⟩ := P l0 a1 hm0 y0 hw0 w1
 refine (caravanlaw2_SpansSlots.calls k _ _ l0 a1 true w (Kd.C_of_reads (d := (0 : Int)) (h1 := fun _ => rfl) hr0) hc0 h rfl hWd_).mono ?_
 rintro e w' ⟨rfl, hd⟩
 exact ⟨rfl, hd⟩

end Go.Proofs.YtnlakdpfkgjdaaaDoor.G
