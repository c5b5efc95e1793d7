/- What functions of the translation come to, and their calls' proofs; by a program of mine over the kit's print, with contracts given by hand beside. Conditions: where a plain function tells none, nothing is said. -/
import Derived.Test.YtijploopgmbhfaaDoorG0
import Derived.Test.YtijploopgmbhfaaDoorG1
namespace Go.Proofs.YtijploopgmbhfaaDoor.G
open Go.RowKit Go.Proofs.YtijploopgmbhfaaDoorW.PrintWords Go.Proofs.YtijploopgmbhfaaDoorW.PrintLast Go.Proofs.YtijploopgmbhfaaDoorW.PrintMore
attribute [local go_sem] max2_int min2_int max_two min_two max_three min_three max_four min_four   -- for this text's walks alone
set_option linter.unusedVariables false
set_option linter.unusedSimpArgs false

/-! ### caravanref13_ReadRoute: function 15 -/
mutual
def caravanref13_ReadRoute.l0 : Nat → ByteArray → List ByteArray → Int → Int → Option (ByteArray × Int × Int)
 | 0, _, _, _, _ => none
 | k + 1, x0, x3, x4, x5 => if x5 ≤ (x0.size : Int) then (if x5 = (x0.size : Int) then (if 0 ≤ x4 then (if x4 ≤ x5 then (if x3.length < 8796093022208 then (caravanref13_ReadRoute.l0 k x0 (x3 ++ [x0.extract (x4 : Int).toNat (x5 : Int).toNat]) (wrap64 (x5 + 1)) (wrap64 (x5 + 1))) else (none)) else (none)) else (none)) else (if 0 ≤ x5 then (if x5 < (x0.size : Int) then (if (bt x0 x5) = 32 then (if 0 ≤ x4 then (if x4 ≤ x5 then (if x3.length < 8796093022208 then (caravanref13_ReadRoute.l0 k x0 (x3 ++ [x0.extract (x4 : Int).toNat (x5 : Int).toNat]) (wrap64 (x5 + 1)) (wrap64 (x5 + 1))) else (none)) else (none)) else (none)) else (caravanref13_ReadRoute.l0 k x0 x3 x4 (wrap64 (x5 + 1)))) else (none)) else (none))) else (if (x3.length : Int) = 3 then (if 0 < (x3.length : Int) then (if (rdOf ByteArray.empty x3 0).toList = ([77, 79, 86, 69, 68] : List UInt8) then (caravanref13_ReadRoute.j1 k x3 false) else (caravanref13_ReadRoute.j1 k x3 ((rdOf ByteArray.empty x3 0).toList != ([65, 83, 75] : List UInt8)))) else (none)) else (caravanref13_ReadRoute.j1 k x3 true))
def caravanref13_ReadRoute.j1 : Nat → List ByteArray → Bool → Option (ByteArray × Int × Int)
 | 0, _, _ => none
 | k + 1, x3, x47 => if x47 = true then (some ((⟨#[]⟩ : ByteArray), 0, 0)) else (if 1 < (x3.length : Int) then ((caravanref5_Number.f k (rdOf ByteArray.empty x3 1)).bind fun bt120 => (if 2 < (x3.length : Int) then ((caravanref5_Number.f k (rdOf ByteArray.empty x3 2)).bind fun bt123 => (if bt120.2 = true then (if bt123.2 = true then (if bt120.1 < 0 then (caravanref13_ReadRoute.j2 k x3 true bt120.1 bt120.2 bt123.1 bt123.2) else (if bt120.1 ≥ 16384 then (caravanref13_ReadRoute.j2 k x3 true bt120.1 bt120.2 bt123.1 bt123.2) else (if bt123.1 < 0 then (caravanref13_ReadRoute.j2 k x3 true bt120.1 bt120.2 bt123.1 bt123.2) else (caravanref13_ReadRoute.j2 k x3 (decide (bt123.1 ≥ 8)) bt120.1 bt120.2 bt123.1 bt123.2)))) else (caravanref13_ReadRoute.j2 k x3 true bt120.1 bt120.2 bt123.1 bt123.2)) else (caravanref13_ReadRoute.j2 k x3 true bt120.1 bt120.2 bt123.1 bt123.2))) else (none))) else (none))
def caravanref13_ReadRoute.j2 : Nat → List ByteArray → Bool → Int → Bool → Int → Bool → Option (ByteArray × Int × Int)
 | 0, _, _, _, _, _, _ => none
 | k + 1, x3, x84, x126000, x126001, x127000, x127001 => if x84 = true then (some ((⟨#[]⟩ : ByteArray), 0, 0)) else (if 0 < (x3.length : Int) then (some (rdOf ByteArray.empty x3 0, x126000, x127000)) else (none))
end
def caravanref13_ReadRoute.f (k : Nat) (a0 : ByteArray) : Option (ByteArray × Int × Int) := caravanref13_ReadRoute.l0 k a0 ([] : List ByteArray) 0 0
theorem caravanref13_ReadRoute.mono_l : ∀ k, (∀ y0 y1 y2 y3, LeO (caravanref13_ReadRoute.l0 k y0 y1 y2 y3) (caravanref13_ReadRoute.l0 (k + 1) y0 y1 y2 y3)) ∧ (∀ y0 y1, LeO (caravanref13_ReadRoute.j1 k y0 y1) (caravanref13_ReadRoute.j1 (k + 1) y0 y1)) ∧ (∀ y0 y1 y2 y3 y4 y5, LeO (caravanref13_ReadRoute.j2 k y0 y1 y2 y3 y4 y5) (caravanref13_ReadRoute.j2 (k + 1) y0 y1 y2 y3 y4 y5))
 | 0 => ⟨fun _ _ _ _ r h => by simp [caravanref13_ReadRoute.l0] at h, fun _ _ r h => by simp [caravanref13_ReadRoute.j1] at h, fun _ _ _ _ _ _ r h => by simp [caravanref13_ReadRoute.j2] at h⟩
 | k + 1 => by
  obtain ⟨ih0, ih1, ih2⟩ := caravanref13_ReadRoute.mono_l k
  refine ⟨?_, ?_, ?_⟩
  ·intro y0 y1 y2 y3
   unfold caravanref13_ReadRoute.l0
   repeat' first
   | (with_reducible exact ih0 _ _ _ _)
   | (with_reducible exact ih1 _ _)
   | (with_reducible exact ih2 _ _ _ _ _ _)
   | (with_reducible exact caravanref5_Number.mono _ _)
   | (with_reducible exact LeO.refl _)
   | (with_reducible exact LeO.none _)
   | (with_reducible refine LeO.ite ?_ ?_)
   | (with_reducible refine LeO.bind ?_ (fun _ => ?_))
   | exact ih0 _ _ _ _
   | exact ih1 _ _
   | exact ih2 _ _ _ _ _ _
   | exact caravanref5_Number.mono _ _
   | exact LeO.none _
   | refine LeO.ite ?_ ?_
   | refine LeO.bind ?_ (fun _ => ?_)
  ·intro y0 y1
   unfold caravanref13_ReadRoute.j1
   repeat' first
   | (with_reducible exact ih0 _ _ _ _)
   | (with_reducible exact ih1 _ _)
   | (with_reducible exact ih2 _ _ _ _ _ _)
   | (with_reducible exact caravanref5_Number.mono _ _)
   | (with_reducible exact LeO.refl _)
   | (with_reducible exact LeO.none _)
   | (with_reducible refine LeO.ite ?_ ?_)
   | (with_reducible refine LeO.bind ?_ (fun _ => ?_))
   | exact ih0 _ _ _ _
   | exact ih1 _ _
   | exact ih2 _ _ _ _ _ _
   | exact caravanref5_Number.mono _ _
   | exact LeO.none _
   | refine LeO.ite ?_ ?_
   | refine LeO.bind ?_ (fun _ => ?_)
  ·intro y0 y1 y2 y3 y4 y5
   unfold caravanref13_ReadRoute.j2
   repeat' first
   | (with_reducible exact ih0 _ _ _ _)
   | (with_reducible exact ih1 _ _)
   | (with_reducible exact ih2 _ _ _ _ _ _)
   | (with_reducible exact caravanref5_Number.mono _ _)
   | (with_reducible exact LeO.refl _)
   | (with_reducible exact LeO.none _)
   | (with_reducible refine LeO.ite ?_ ?_)
   | (with_reducible refine LeO.bind ?_ (fun _ => ?_))
   | exact ih0 _ _ _ _
   | exact ih1 _ _
   | exact ih2 _ _ _ _ _ _
   | exact caravanref5_Number.mono _ _
   | exact LeO.none _
   | refine LeO.ite ?_ ?_
   | refine LeO.bind ?_ (fun _ => ?_)
theorem caravanref13_ReadRoute.mono : ∀ a0 k, LeO (caravanref13_ReadRoute.f k a0) (caravanref13_ReadRoute.f (k + 1) a0) := by
 intro a0 k
 obtain ⟨ih0, ih1, ih2⟩ := caravanref13_ReadRoute.mono_l k
 unfold caravanref13_ReadRoute.f
 repeat' first
  | (with_reducible exact ih0 _ _ _ _)
  | (with_reducible exact ih1 _ _)
  | (with_reducible exact ih2 _ _ _ _ _ _)
  | (with_reducible exact caravanref5_Number.mono _ _)
  | (with_reducible exact LeO.refl _)
  | (with_reducible exact LeO.none _)
  | (with_reducible refine LeO.ite ?_ ?_)
  | (with_reducible refine LeO.bind ?_ (fun _ => ?_))
  | exact ih0 _ _ _ _
  | exact ih1 _ _
  | exact ih2 _ _ _ _ _ _
  | exact caravanref5_Number.mono _ _
  | exact LeO.none _
  | refine LeO.ite ?_ ?_
  | refine LeO.bind ?_ (fun _ => ?_)
def caravanref13_ReadRoute.T11 : Bool × List (List Nat × List Nat) := (true, [([], []), ([0], [0]), ([1], [1]), ([2], [2]), ([], []), ([4], [4]), ([5], [5]), ([6, 3], [6]), ([], []), ([], []), ([8, 3, 7, 0, 1, 2, 3, 8, 9], [3, 8]), ([9, 7, 10, 0, 1, 2, 3, 4, 5, 6, 7, 8, 9, 10], [7, 9])])
def caravanref13_ReadRoute.B11 : List Nat := [0, 1, 3, 7, 0, 16, 48, 127, 0, 0, 1023, 2047]
theorem caravanref13_ReadRoute.tab11 : rtab .any (opsOf Tryd.f15 11) = caravanref13_ReadRoute.T11 := by kernel_rfl
theorem caravanref13_ReadRoute.bits11 : waitsOk caravanref13_ReadRoute.T11.2 caravanref13_ReadRoute.B11 = true := by kernel_rfl
def caravanref13_ReadRoute.T14 : Bool × List (List Nat × List Nat) := (true, [([], []), ([0], [0]), ([1], [1]), ([], []), ([3], [3]), ([], []), ([5], [5]), ([2, 4, 6], [2, 4, 6]), ([7, 0, 1, 2, 3, 4, 5, 6, 7], [7])])
def caravanref13_ReadRoute.B14 : List Nat := [0, 1, 3, 0, 8, 0, 32, 127, 255]
theorem caravanref13_ReadRoute.tab14 : rtab .any (opsOf Tryd.f15 14) = caravanref13_ReadRoute.T14 := by kernel_rfl
theorem caravanref13_ReadRoute.bits14 : waitsOk caravanref13_ReadRoute.T14.2 caravanref13_ReadRoute.B14 = true := by kernel_rfl
set_option maxHeartbeats 8000000 in
set_option maxRecDepth 100000 in
theorem caravanref13_ReadRoute.calls (k : Nat) (a0 : ByteArray) (r1 : ByteArray) (r2 : Int) (r3 : Int) (w : World) (h : caravanref13_ReadRoute.f k a0 = some (r1, r2, r3)) :
 Calls Tryd.prog 15 #[.string a0] w fun e w' => e = .returned (.agg #[.string r1, .int .i64 r2, .int .i64 r3]) ∧ Below w.heap.size w w' := by
 have hu46 := Tryd.underlying46
 have hu96 := Tryd.underlying96
 have HB := Aside0.mk (Below.refl w.heap.size w)
 have H : (caravanref13_ReadRoute.l0 k a0 ([] : List ByteArray) 0 0) = some (r1, r2, r3) := h
 clear h
 have H' := Aside0.mk H
 clear H
 go_enter Tryd.func15, Tryd.ntmps15
 go_wp2_with (first | ((with_reducible refine gate_dst (N := 2) rfl ?_); refine box_event ?hg (N := 2) ?hd (cs := #[.string (⟨#[]⟩ : ByteArray), .int .i64 0, .int .i64 0]) (t := 46) ?hr ?_; (case hd => rfl); (case hg => rfl); (case hr => first | (go_simp; done) | (go_simp; rfl)); intro gb110 hg w2 hbox hb; have n0_ := Aside0.mk (below_step (qdb35_ HB.out) hb); have n1_ := Aside0.mk (hbox); have n2_ := Aside0.mk ((by rw [hg]; exact (below_size (qdb35_ HB.out)) : w.heap.size ≤ gb110)); have n3_ := Aside0.mk ((by rw [hg]; exact (below_size (qdb35_ HB.out)) : w.heap.size ≤ gb110)); clear HB; have HB := n0_; have BK110 := n1_; have GW110 := n2_; have GE110 := n3_; clear n0_ n1_ n2_ n3_; clear hb hbox hg))
 go_loopg [3, 4, 5] k (fun kq v3 v4 v5 w' => ∃ (x3_1 : List ByteArray) (x4_1 : Int) (x5_1 : Int), v4 = .int .i64 x4_1 ∧ v5 = .int .i64 x5_1 ∧ Aside0 (caravanref13_ReadRoute.l0 kq a0 x3_1 x4_1 x5_1 = some (r1, r2, r3)) ∧ Aside0 (kq ≤ k) ∧ Aside0 (Kd.R Kd.string 9 w' w.heap.size (fun _ => True) v3 x3_1) ∧ Aside0 (w'.heap[gb110]? = some (.cells #[.string (⟨#[]⟩ : ByteArray), .int .i64 0, .int .i64 0] 46 (0, 0))) ∧ Aside0 (Below w.heap.size w w'))
 case atStart => exact ⟨(([] : List ByteArray)), (0), (0), (by first | rfl | (simp; done) | (simp [*]; done)), (by first | rfl | (simp; done) | (simp [*]; done)), H', ⟨Nat.le_refl _⟩, ⟨by first | exact Kd.R_nil _ _ _ _ _ | exact Kd.N_nil _ _ _ _ _ | exact Kd.V_nil _ _ _ _ _ | exact Kd.Q_nil _ _ _ _ _ | exact Kd.S_nil _ _ _ _ _⟩, ⟨by (with_reducible repeat (first | refine blk_drewN ?_ _ | refine blk_drew ?_ | refine blk_alloc ?_ _)); exact BK110.out⟩, ⟨(qed14_ HB.out GE110.out)⟩⟩
 case round =>
  clear H'
  try clear c1
  try clear p2
  obtain ⟨x3_1, x4_1, x5_1, rfl, rfl, HA, HK1, HO_3, BK110, HB⟩ := hrel
  cases gk with
  | zero => exact absurd HA.out (by simp [caravanref13_ReadRoute.l0])
  | succ k1 =>
   have H := HA.out
   clear HA
   simp only [caravanref13_ReadRoute.l0] at H
   by_cases c3 : x5_1 ≤ (a0.size : Int)
   ·rw [if_pos c3] at H
    have c3b0 : decide (x5_1 ≤ (a0.size : Int)) = true := decide_eq_true c3
    clear c3
    by_cases c4 : x5_1 = (a0.size : Int)
    ·rw [if_pos c4] at H
     have c4b0 : (x5_1 == (a0.size : Int)) = true := beq_iff_eq.mpr c4
     have c4b1 : (x5_1 != (a0.size : Int)) = false := bne_eq_false_iff_eq.mpr c4
     clear c4
     by_cases c5 : 0 ≤ x4_1
     ·rw [if_pos c5] at H
      have c5b0 := eq_true c5
      have c5b1 : decide (0 ≤ x4_1) = true := decide_eq_true c5
      clear c5
      by_cases c6 : x4_1 ≤ x5_1
      ·rw [if_pos c6] at H
       have c6b0 := eq_true c6
       have c6b1 : decide (x4_1 ≤ x5_1) = true := decide_eq_true c6
       clear c6
       have c7b0 := eq_true (of_decide_eq_true (by first | (with_reducible assumption) | assumption) : x5_1 ≤ (a0.size : Int))
       by_cases c8 : x3_1.length < 8796093022208
       ·rw [if_pos c8] at H
        have LMc8 := Aside0.mk c8
        clear c8
        obtain ⟨y111, hy111⟩ : ∃ y_ : List ByteArray, y_ = (x3_1 ++ [a0.extract (x4_1 : Int).toNat (x5_1 : Int).toNat]) := ⟨_, rfl⟩
        replace H : (caravanref13_ReadRoute.l0 k1 a0 y111 (wrap64 (x5_1 + 1)) (wrap64 (x5_1 + 1))) = some (r1, r2, r3) := by first | (rw [hy111]; with_reducible exact H) | (have H2_ := (Option.bind_some _ _).symm.trans H; rw [hy111]; with_reducible exact H2_) | (have H2_ := (Option.bind_some _ _).symm.trans H; with_reducible exact H2_) | with_reducible exact H | (rw [hy111]; exact H) | exact H
        have Ny111 := Aside0.mk hy111
        clear hy111
        have H' := Aside0.mk H
        clear H
        go_wp2_with (first | ((with_reducible refine gate_builtin (b := .append) (xs := #[.tmp 24, .tmp 29]) rfl ?_); at_builtin; refine Kd.R_append Kd.string (w0 := w) w.heap.size rfl (.tmp 24) (.tmp 29) 37 9 (.string ⟨#[]⟩) 16 rfl Tryd.underlying37 info9 rfl (by decide) (by omega) u3 x3_1 (a0.extract (x4_1 : Int).toNat (x5_1 : Int).toNat) [.string (a0.extract (x4_1 : Int).toNat (x5_1 : Int).toNat)] (fun _ => True) (fun _ => False) rfl rfl ?aP (fun _ hk => hk.elim) ?aF ?aO ?aB ?aS ?aL ?_; (case aP => exact rfl); (case aB => exact (qed14_ HB.out GE110.out)); (case aF => exact (fun _ _ => trivial)); (case aO => exact (q8524_ HO_3.out)); (case aS => exact (below_size (qed14_ HB.out GE110.out))); (case aL => have := LMc8.out; omega); intro v112 w9 ho hb hg hat; rw [← Ny111.out] at ho; have n0_ := Aside0.mk (blk_grown (g := gb110) (o := .cells #[.string (⟨#[]⟩ : ByteArray), .int .i64 0, .int .i64 0] 46 (0, 0)) (q1466_ BK110.out) hg (Kd.R_ne HO_3.out BK110.out (by decide))); have n1_ := Aside0.mk (hb); have n2_ := Aside0.mk (ho); clear BK110; clear HB; clear HO_3; have BK110 := n0_; have HB := n1_; have HO113 := n2_; clear n0_ n1_ n2_; clear ho hb hg hat))
        go_roundg k1
        case measure => have := HK1.out; omega
        case rel => exact ⟨(y111), (wrap64 (x5_1 + 1)), (wrap64 (x5_1 + 1)), (by first | rfl | (simp; done) | (simp [*]; done)), (by first | rfl | (simp; done) | (simp [*]; done)), H', ⟨by have := HK1.out; omega⟩, ⟨by (with_reducible repeat (first | apply Kd.R_alloc | apply Kd.R_drewN | apply Kd.R_drew)); exact HO113.out⟩, ⟨by (with_reducible repeat (first | refine blk_drewN ?_ _ | refine blk_drew ?_ | refine blk_alloc ?_ _)); exact BK110.out⟩, ⟨(qed14_ HB.out GE110.out)⟩⟩
       ·rw [if_neg c8] at H
        exact absurd H (by simp)
      ·rw [if_neg c6] at H
       exact absurd H (by simp)
     ·rw [if_neg c5] at H
      exact absurd H (by simp)
    ·rw [if_neg c4] at H
     have c4b0 : (x5_1 == (a0.size : Int)) = false := beq_eq_false_iff_ne.mpr c4
     have c4b1 : (x5_1 != (a0.size : Int)) = true := bne_iff_ne.mpr c4
     by_cases c10 : 0 ≤ x5_1
     ·rw [if_pos c10] at H
      have c10b0 : decide (0 ≤ x5_1) = true := decide_eq_true c10
      clear c10
      by_cases c11 : x5_1 < (a0.size : Int)
      ·rw [if_pos c11] at H
       have c11b0 : decide (x5_1 < (a0.size : Int)) = true := decide_eq_true c11
       clear c11
       by_cases c13 : (bt a0 x5_1) = 32
       ·rw [if_pos c13] at H
        have c13b0 : ((bt a0 x5_1) == 32) = true := beq_iff_eq.mpr c13
        have c13b1 : ((bt a0 x5_1) != 32) = false := bne_eq_false_iff_eq.mpr c13
        clear c13
        by_cases c14 : 0 ≤ x4_1
        ·rw [if_pos c14] at H
         have c14b0 := eq_true c14
         have c14b1 : decide (0 ≤ x4_1) = true := decide_eq_true c14
         clear c14
         by_cases c15 : x4_1 ≤ x5_1
         ·rw [if_pos c15] at H
          have c15b0 := eq_true c15
          have c15b1 : decide (x4_1 ≤ x5_1) = true := decide_eq_true c15
          clear c15
          have c16b0 := eq_true (of_decide_eq_true (by first | (with_reducible assumption) | assumption) : x5_1 ≤ (a0.size : Int))
          by_cases c17 : x3_1.length < 8796093022208
          ·rw [if_pos c17] at H
           have LMc17 := Aside0.mk c17
           clear c17
           obtain ⟨y114, hy114⟩ : ∃ y_ : List ByteArray, y_ = (x3_1 ++ [a0.extract (x4_1 : Int).toNat (x5_1 : Int).toNat]) := ⟨_, rfl⟩
           replace H : (caravanref13_ReadRoute.l0 k1 a0 y114 (wrap64 (x5_1 + 1)) (wrap64 (x5_1 + 1))) = some (r1, r2, r3) := by first | (rw [hy114]; with_reducible exact H) | (have H2_ := (Option.bind_some _ _).symm.trans H; rw [hy114]; with_reducible exact H2_) | (have H2_ := (Option.bind_some _ _).symm.trans H; with_reducible exact H2_) | with_reducible exact H | (rw [hy114]; exact H) | exact H
           have Ny114 := Aside0.mk hy114
           clear hy114
           have H' := Aside0.mk H
           clear H
           have p12 : 0 ≤ (x5_1 : Int) := of_decide_eq_true (by first | (with_reducible assumption) | assumption)
           have q12 : x5_1 < (a0.size : Int) := of_decide_eq_true (by first | (with_reducible assumption) | assumption)
           have hx12 := bt_at a0 x5_1
           replace p12 := eq_true p12
           replace q12 := eq_true q12
           go_wp2_with (first | ((with_reducible refine gate_builtin (b := .append) (xs := #[.tmp 24, .tmp 29]) rfl ?_); at_builtin; refine Kd.R_append Kd.string (w0 := w) w.heap.size rfl (.tmp 24) (.tmp 29) 37 9 (.string ⟨#[]⟩) 16 rfl Tryd.underlying37 info9 rfl (by decide) (by omega) u3 x3_1 (a0.extract (x4_1 : Int).toNat (x5_1 : Int).toNat) [.string (a0.extract (x4_1 : Int).toNat (x5_1 : Int).toNat)] (fun _ => True) (fun _ => False) rfl rfl ?aP (fun _ hk => hk.elim) ?aF ?aO ?aB ?aS ?aL ?_; (case aP => exact rfl); (case aB => exact (qed14_ HB.out GE110.out)); (case aF => exact (fun _ _ => trivial)); (case aO => exact (q8524_ HO_3.out)); (case aS => exact (below_size (qed14_ HB.out GE110.out))); (case aL => have := LMc17.out; omega); intro v115 w18 ho hb hg hat; rw [← Ny114.out] at ho; have n0_ := Aside0.mk (blk_grown (g := gb110) (o := .cells #[.string (⟨#[]⟩ : ByteArray), .int .i64 0, .int .i64 0] 46 (0, 0)) (q1466_ BK110.out) hg (Kd.R_ne HO_3.out BK110.out (by decide))); have n1_ := Aside0.mk (hb); have n2_ := Aside0.mk (ho); clear BK110; clear HB; clear HO_3; have BK110 := n0_; have HB := n1_; have HO116 := n2_; clear n0_ n1_ n2_; clear ho hb hg hat))
           go_roundg k1
           case measure => have := HK1.out; omega
           case rel => exact ⟨(y114), (wrap64 (x5_1 + 1)), (wrap64 (x5_1 + 1)), (by first | rfl | (simp; done) | (simp [*]; done)), (by first | rfl | (simp; done) | (simp [*]; done)), H', ⟨by have := HK1.out; omega⟩, ⟨by (with_reducible repeat (first | apply Kd.R_alloc | apply Kd.R_drewN | apply Kd.R_drew)); exact HO116.out⟩, ⟨by (with_reducible repeat (first | refine blk_drewN ?_ _ | refine blk_drew ?_ | refine blk_alloc ?_ _)); exact BK110.out⟩, ⟨(qed14_ HB.out GE110.out)⟩⟩
          ·rw [if_neg c17] at H
           exact absurd H (by simp)
         ·rw [if_neg c15] at H
          exact absurd H (by simp)
        ·rw [if_neg c14] at H
         exact absurd H (by simp)
       ·rw [if_neg c13] at H
        have c13b0 : ((bt a0 x5_1) == 32) = false := beq_eq_false_iff_ne.mpr c13
        have c13b1 : ((bt a0 x5_1) != 32) = true := bne_iff_ne.mpr c13
        have H' := Aside0.mk H
        clear H
        have p12 : 0 ≤ (x5_1 : Int) := of_decide_eq_true (by first | (with_reducible assumption) | assumption)
        have q12 : x5_1 < (a0.size : Int) := of_decide_eq_true (by first | (with_reducible assumption) | assumption)
        have hx12 := bt_at a0 x5_1
        replace p12 := eq_true p12
        replace q12 := eq_true q12
        go_wp2
        go_roundg k1
        case measure => have := HK1.out; omega
        case rel => exact ⟨(x3_1), (x4_1), (wrap64 (x5_1 + 1)), (by first | rfl | (simp; done) | (simp [*]; done)), (by first | rfl | (simp; done) | (simp [*]; done)), H', ⟨by have := HK1.out; omega⟩, ⟨by (with_reducible repeat (first | apply Kd.R_alloc | apply Kd.R_drewN | apply Kd.R_drew)); exact HO_3.out⟩, ⟨by (with_reducible repeat (first | refine blk_drewN ?_ _ | refine blk_drew ?_ | refine blk_alloc ?_ _)); exact BK110.out⟩, ⟨(qed14_ HB.out GE110.out)⟩⟩
      ·rw [if_neg c11] at H
       exact absurd H (by simp)
     ·rw [if_neg c10] at H
      exact absurd H (by simp)
   ·rw [if_neg c3] at H
    have c3b0 : decide (x5_1 ≤ (a0.size : Int)) = false := decide_eq_false c3
    clear c3
    have HC19 := Aside0.mk H
    clear H
    go_upto_region 9 with (fail)
    go_cut [47] (fun v47 wc => ∃ (kq : Nat) (x47_18 : Bool), v47 = .bool x47_18 ∧ Aside0 (caravanref13_ReadRoute.j1 kq x3_1 x47_18 = some (r1, r2, r3)) ∧ Aside0 (kq ≤ k1) ∧ Aside0 (Kd.R Kd.string 9 wc w.heap.size (fun _ => True) u3 x3_1) ∧ Aside0 (wc.heap[gb110]? = some (.cells #[.string (⟨#[]⟩ : ByteArray), .int .i64 0, .int .i64 0] 46 (0, 0))) ∧ Aside0 (Below w.heap.size w wc))
    case first =>
     have H := HC19.out
     clear HC19
     by_cases c20 : (x3_1.length : Int) = 3
     ·rw [if_pos c20] at H
      have c20b0 : ((x3_1.length : Int) == 3) = true := beq_iff_eq.mpr c20
      have c20b1 : ((x3_1.length : Int) != 3) = false := bne_eq_false_iff_eq.mpr c20
      clear c20
      (first | rw [c20b0] | (simp only [i64_w, i32_w]; rw [c20b0]) | skip)
      by_cases c21 : 0 < (x3_1.length : Int)
      ·rw [if_pos c21] at H
       have c21b0 : decide (0 < (x3_1.length : Int)) = true := decide_eq_true c21
       have c21b1 : decide (0 < x3_1.length) = true := decide_eq_true (by omega)
       clear c21
       by_cases c22 : (rdOf ByteArray.empty x3_1 0).toList = ([77, 79, 86, 69, 68] : List UInt8)
       ·rw [if_pos c22] at H
        have c22b0 : ((rdOf ByteArray.empty x3_1 0).toList == ([77, 79, 86, 69, 68] : List UInt8)) = true := beq_iff_eq.mpr c22
        have c22b1 : ((rdOf ByteArray.empty x3_1 0).toList != ([77, 79, 86, 69, 68] : List UInt8)) = false := bne_eq_false_iff_eq.mpr c22
        clear c22
        have H' := Aside0.mk H
        clear H
        obtain ⟨Ao23, co23, eo23⟩ := Kd.R_slice HO_3.out
        subst eo23
        have p117 : 0 ≤ (0 : Int) := (by omega)
        have q117 : 0 < (x3_1.length : Int) := of_decide_eq_true (by first | (with_reducible assumption) | assumption)
        obtain ⟨ad117, e117, hx117_0⟩ := Kd.at_string (Kd.R_reads' HO_3.out).2.2 0 p117 q117
        cases e117
        have qi117 : (0 < x3_1.length) = True := eq_true (by omega)
        (try rw [show ((0 : Int)).toNat = 0 from rfl] at hx117_0)
        (try rw [Addr.add_zero'] at hx117_0)
        replace p117 := eq_true p117
        replace q117 := eq_true q117
        go_wp2
        go_meet
        case rel => exact ⟨_, (false), (by first | rfl | (simp; done) | (simp [*]; done)), H', ⟨by have := HK1.out; first | omega | exact Nat.le_refl _⟩, ⟨by (with_reducible repeat (first | apply Kd.R_alloc | apply Kd.R_drewN | apply Kd.R_drew)); exact HO_3.out⟩, ⟨by (with_reducible repeat (first | refine blk_drewN ?_ _ | refine blk_drew ?_ | refine blk_alloc ?_ _)); exact BK110.out⟩, ⟨(qed14_ HB.out GE110.out)⟩⟩
       ·rw [if_neg c22] at H
        have c22b0 : ((rdOf ByteArray.empty x3_1 0).toList == ([77, 79, 86, 69, 68] : List UInt8)) = false := beq_eq_false_iff_ne.mpr c22
        have c22b1 : ((rdOf ByteArray.empty x3_1 0).toList != ([77, 79, 86, 69, 68] : List UInt8)) = true := bne_iff_ne.mpr c22
        have H' := Aside0.mk H
        clear H
        obtain ⟨Ao24, co24, eo24⟩ := Kd.R_slice HO_3.out
        subst eo24
        have p117 : 0 ≤ (0 : Int) := (by omega)
        have q117 : 0 < (x3_1.length : Int) := of_decide_eq_true (by first | (with_reducible assumption) | assumption)
        obtain ⟨ad117, e117, hx117_0⟩ := Kd.at_string (Kd.R_reads' HO_3.out).2.2 0 p117 q117
        cases e117
        have qi117 : (0 < x3_1.length) = True := eq_true (by omega)
        (try rw [show ((0 : Int)).toNat = 0 from rfl] at hx117_0)
        (try rw [Addr.add_zero'] at hx117_0)
        replace p117 := eq_true p117
        replace q117 := eq_true q117
        have p118 : 0 ≤ (0 : Int) := (by omega)
        have q118 : 0 < (x3_1.length : Int) := of_decide_eq_true (by first | (with_reducible assumption) | assumption)
        obtain ⟨ad118, e118, hx118_0⟩ := Kd.at_string (Kd.R_reads' HO_3.out).2.2 0 p118 q118
        obtain rfl : ad117 = ad118 := (by injection e118)
        have qi118 : (0 < x3_1.length) = True := eq_true (by omega)
        (try rw [show ((0 : Int)).toNat = 0 from rfl] at hx118_0)
        (try rw [Addr.add_zero'] at hx118_0)
        replace p118 := eq_true p118
        replace q118 := eq_true q118
        go_wp2
        go_meet
        case rel => exact ⟨_, (((rdOf ByteArray.empty x3_1 0).toList != ([65, 83, 75] : List UInt8))), (by first | rfl | (simp; done) | (simp [*]; done)), H', ⟨by have := HK1.out; first | omega | exact Nat.le_refl _⟩, ⟨by (with_reducible repeat (first | apply Kd.R_alloc | apply Kd.R_drewN | apply Kd.R_drew)); exact HO_3.out⟩, ⟨by (with_reducible repeat (first | refine blk_drewN ?_ _ | refine blk_drew ?_ | refine blk_alloc ?_ _)); exact BK110.out⟩, ⟨(qed14_ HB.out GE110.out)⟩⟩
      ·rw [if_neg c21] at H
       exact absurd H (by simp)
     ·rw [if_neg c20] at H
      have c20b0 : ((x3_1.length : Int) == 3) = false := beq_eq_false_iff_ne.mpr c20
      have c20b1 : ((x3_1.length : Int) != 3) = true := bne_iff_ne.mpr c20
      (first | rw [c20b0] | (simp only [i64_w, i32_w]; rw [c20b0]) | skip)
      have H' := Aside0.mk H
      clear H
      obtain ⟨Ao25, co25, eo25⟩ := Kd.R_slice HO_3.out
      subst eo25
      go_wp2
      go_meet
      case rel => exact ⟨_, (true), (by first | rfl | (simp; done) | (simp [*]; done)), H', ⟨by have := HK1.out; first | omega | exact Nat.le_refl _⟩, ⟨by (with_reducible repeat (first | apply Kd.R_alloc | apply Kd.R_drewN | apply Kd.R_drew)); exact HO_3.out⟩, ⟨by (with_reducible repeat (first | refine blk_drewN ?_ _ | refine blk_drew ?_ | refine blk_alloc ?_ _)); exact BK110.out⟩, ⟨(qed14_ HB.out GE110.out)⟩⟩
    case rest =>
     clear HC19
     try clear c1
     try clear p1
     try clear q1
     try clear hx1
     try clear qi1
     try clear c2
     try clear p2
     try clear c3
     try clear c3b0
     try clear c4
     try clear c4b0
     try clear c4b1
     try clear c5
     try clear c5b0
     try clear c5b1
     try clear c6
     try clear c6b0
     try clear c6b1
     try clear p6
     try clear c7
     try clear c7b0
     try clear c8
     try clear c10
     try clear c10b0
     try clear c11
     try clear c11b0
     try clear p11
     try clear q11
     try clear hx11
     try clear qi11
     try clear p12
     try clear q12
     try clear hx12
     try clear c13
     try clear c13b0
     try clear c13b1
     try clear c14
     try clear c14b0
     try clear c14b1
     try clear c15
     try clear c15b0
     try clear c15b1
     try clear c16
     try clear c16b0
     try clear c17
     try clear c20
     try clear c20b0
     try clear c20b1
     try clear c21
     try clear c21b0
     try clear c21b1
     try clear c22
     try clear c22b0
     try clear c22b1
     try clear hx117_0
     try clear hx118_0
     try clear p117
     try clear p118
     try clear p12
     try clear p2
     try clear q117
     try clear q118
     try clear q12
     obtain ⟨kq, x47_18, rfl, HA, HJ18, HO_3, BK110, HB⟩ := hcut
     cases kq with
     | zero => exact absurd HA.out (by simp [caravanref13_ReadRoute.j1])
     | succ kj18 =>
      have H := HA.out
      clear HA
      simp only [caravanref13_ReadRoute.j1] at H
      by_cases c26 : x47_18 = true
      ·subst c26
       have H1 : (some ((⟨#[]⟩ : ByteArray), 0, 0)) = some (r1, r2, r3) := by rw [if_pos rfl] at H; exact H
       clear H
       have H := H1
       clear H1
       simp only [Option.some.injEq, Prod.mk.injEq] at H
       obtain ⟨rfl, rfl, rfl⟩ := H
       have hcz27_0 : wc.cell? ⟨gb110, 0, none⟩ = some (.string (⟨#[]⟩ : ByteArray)) := (blk_cell BK110.out 0).trans rfl
       have hcz27_1 : wc.cell? ⟨gb110, 1, none⟩ = some (.int .i64 0) := (blk_cell BK110.out 1).trans rfl
       have hcz27_2 : wc.cell? ⟨gb110, 2, none⟩ = some (.int .i64 0) := (blk_cell BK110.out 2).trans rfl
       have hfz27_0 := blk_frozen BK110.out 0
       have hfz27_1 := blk_frozen BK110.out 1
       have hfz27_2 := blk_frozen BK110.out 2
       go_wp2
       refine bodyPost_ret (results_cell_row rfl _ _ gb110 46 #[.string (⟨#[]⟩ : ByteArray), .int .i64 0, .int .i64 0] (0, 0) _ rfl (by (with_reducible repeat (first | refine blk_drewN ?_ _ | refine blk_drew ?_ | refine blk_alloc ?_ _)); refine blk_put (cs := #[.string (⟨#[]⟩ : ByteArray), .int .i64 0, .int .i64 0]) ?_ 2 _ rfl; (with_reducible repeat (first | refine blk_drewN ?_ _ | refine blk_drew ?_ | refine blk_alloc ?_ _)); refine blk_put (cs := #[.string (⟨#[]⟩ : ByteArray), .int .i64 0, .int .i64 0]) ?_ 1 _ rfl; (with_reducible repeat (first | refine blk_drewN ?_ _ | refine blk_drew ?_ | refine blk_alloc ?_ _)); refine blk_put (cs := #[.string (⟨#[]⟩ : ByteArray), .int .i64 0, .int .i64 0]) ?_ 0 _ rfl; (with_reducible repeat (first | refine blk_drewN ?_ _ | refine blk_drew ?_ | refine blk_alloc ?_ _)); exact BK110.out) Tryd.underlying46 rfl (by kernel_rfl)) rfl ?_
       exact ⟨by first | rfl | (simp [errW_none, errW_some] <;> rfl) | (simp [*, errW_none, errW_some] <;> rfl), (qed14_ HB.out GE110.out)⟩
      ·replace c26 := Bool.eq_false_iff.mpr c26
       subst c26
       have H1 : (if 1 < (x3_1.length : Int) then ((caravanref5_Number.f kj18 (rdOf ByteArray.empty x3_1 1)).bind fun bt120 => (if 2 < (x3_1.length : Int) then ((caravanref5_Number.f kj18 (rdOf ByteArray.empty x3_1 2)).bind fun bt123 => (if bt120.2 = true then (if bt123.2 = true then (if bt120.1 < 0 then (caravanref13_ReadRoute.j2 kj18 x3_1 true bt120.1 bt120.2 bt123.1 bt123.2) else (if bt120.1 ≥ 16384 then (caravanref13_ReadRoute.j2 kj18 x3_1 true bt120.1 bt120.2 bt123.1 bt123.2) else (if bt123.1 < 0 then (caravanref13_ReadRoute.j2 kj18 x3_1 true bt120.1 bt120.2 bt123.1 bt123.2) else (caravanref13_ReadRoute.j2 kj18 x3_1 (decide (bt123.1 ≥ 8)) bt120.1 bt120.2 bt123.1 bt123.2)))) else (caravanref13_ReadRoute.j2 kj18 x3_1 true bt120.1 bt120.2 bt123.1 bt123.2)) else (caravanref13_ReadRoute.j2 kj18 x3_1 true bt120.1 bt120.2 bt123.1 bt123.2))) else (none))) else (none)) = some (r1, r2, r3) := by rw [if_neg (show ¬ (false = true) by decide)] at H; exact H
       clear H
       have H := H1
       clear H1
       by_cases c28 : 1 < (x3_1.length : Int)
       ·rw [if_pos c28] at H
        have c28b0 : decide (1 < (x3_1.length : Int)) = true := decide_eq_true c28
        have c28b1 : decide (1 < x3_1.length) = true := decide_eq_true (by omega)
        clear c28
        replace H := Option.bind_eq_some_iff.mp H
        obtain ⟨⟨t120, t121⟩, A290, H⟩ := H
        replace H : (if 2 < (x3_1.length : Int) then ((caravanref5_Number.f kj18 (rdOf ByteArray.empty x3_1 2)).bind fun bt123 => (if t121 = true then (if bt123.2 = true then (if t120 < 0 then (caravanref13_ReadRoute.j2 kj18 x3_1 true t120 t121 bt123.1 bt123.2) else (if t120 ≥ 16384 then (caravanref13_ReadRoute.j2 kj18 x3_1 true t120 t121 bt123.1 bt123.2) else (if bt123.1 < 0 then (caravanref13_ReadRoute.j2 kj18 x3_1 true t120 t121 bt123.1 bt123.2) else (caravanref13_ReadRoute.j2 kj18 x3_1 (decide (bt123.1 ≥ 8)) t120 t121 bt123.1 bt123.2)))) else (caravanref13_ReadRoute.j2 kj18 x3_1 true t120 t121 bt123.1 bt123.2)) else (caravanref13_ReadRoute.j2 kj18 x3_1 true t120 t121 bt123.1 bt123.2))) else (none)) = some (r1, r2, r3) := H
        have A29 := Aside0.mk A290
        clear A290
        by_cases c30 : 2 < (x3_1.length : Int)
        ·rw [if_pos c30] at H
         have c30b0 : decide (2 < (x3_1.length : Int)) = true := decide_eq_true c30
         have c30b1 : decide (2 < x3_1.length) = true := decide_eq_true (by omega)
         clear c30
         replace H := Option.bind_eq_some_iff.mp H
         obtain ⟨⟨t123, t124⟩, A310, H⟩ := H
         replace H : (if t121 = true then (if t124 = true then (if t120 < 0 then (caravanref13_ReadRoute.j2 kj18 x3_1 true t120 t121 t123 t124) else (if t120 ≥ 16384 then (caravanref13_ReadRoute.j2 kj18 x3_1 true t120 t121 t123 t124) else (if t123 < 0 then (caravanref13_ReadRoute.j2 kj18 x3_1 true t120 t121 t123 t124) else (caravanref13_ReadRoute.j2 kj18 x3_1 (decide (t123 ≥ 8)) t120 t121 t123 t124)))) else (caravanref13_ReadRoute.j2 kj18 x3_1 true t120 t121 t123 t124)) else (caravanref13_ReadRoute.j2 kj18 x3_1 true t120 t121 t123 t124)) = some (r1, r2, r3) := H
         have A31 := Aside0.mk A310
         clear A310
         have HC32 := Aside0.mk H
         clear H
         try go_wp2
         have n0_ := Aside0.mk (Kd.R_drew HO_3.out)
         have n1_ := Aside0.mk (blk_drew BK110.out)
         have n2_ := Aside0.mk (below_drew1 HB.out)
         clear HO_3
         clear BK110
         clear HB
         have HO_3 := n0_
         have BK110 := n1_
         have HB := n2_
         clear n0_ n1_ n2_
         obtain ⟨Ao34, co34, eo34⟩ := Kd.R_slice HO_3.out
         (first | subst eo34 | (injection eo34 with f1_ f2_ f3_; have f4_ := f1_.symm; have f5_ := f3_.symm; clear f1_ f2_ f3_; subst f4_; subst f5_))
         have p119 : 0 ≤ (1 : Int) := (by omega)
         have q119 : 1 < (x3_1.length : Int) := of_decide_eq_true (by first | (with_reducible assumption) | assumption)
         obtain ⟨ad119, e119, hx119_0⟩ := Kd.at_string (Kd.R_reads' HO_3.out).2.2 1 p119 q119
         cases e119
         (try simp only [show (1 : Int).toNat = 1 from rfl, Nat.reduceMul, Nat.reduceEqDiff, Go.Addr.add, ↓reduceIte] at hx119_0)
         have qi119 : (1 < x3_1.length) = True := eq_true (by omega)
         (try rw [show ((1 : Int)).toNat = 1 from rfl] at hx119_0)
         replace p119 := eq_true p119
         replace q119 := eq_true q119
         have p122 : 0 ≤ (2 : Int) := (by omega)
         have q122 : 2 < (x3_1.length : Int) := of_decide_eq_true (by first | (with_reducible assumption) | assumption)
         obtain ⟨ad122, e122, hx122_0⟩ := Kd.at_string (Kd.R_reads' HO_3.out).2.2 2 p122 q122
         obtain rfl : ad119 = ad122 := (by injection e122)
         (try simp only [show (2 : Int).toNat = 2 from rfl, Nat.reduceMul, Nat.reduceEqDiff, Go.Addr.add, ↓reduceIte] at hx122_0)
         have qi122 : (2 < x3_1.length) = True := eq_true (by omega)
         (try rw [show ((2 : Int)).toNat = 2 from rfl] at hx122_0)
         replace p122 := eq_true p122
         replace q122 := eq_true q122
         refine start_ (n := 12) (S := fun w' => w'.cell? ⟨ad119.block, ad119.off + 1, none⟩ = some (.string (rdOf ByteArray.empty x3_1 1)) ∧ w'.cell? ⟨ad119.block, ad119.off + 2, none⟩ = some (.string (rdOf ByteArray.empty x3_1 2))) (ds := []) (ml_ 12 0) (by kernel_rfl) rfl rfl ⟨hx119_0, hx122_0⟩ (fun hHeld => ?_); refine with_tabW caravanref13_ReadRoute.tab11 caravanref13_ReadRoute.bits11 (fun HT_ HW_ => ?_)
         generalize wc.drew = w33 at HO_3 BK110 HB hx119_0 hx122_0 hHeld ⊢
         refine pA_ 0 49 (ml_ 12 1) rfl rfl HT_.out ?_
         refine pA_ 1 50 (ml_ 12 3) rfl rfl HT_.out ?_
         refine pA_ 4 53 (ml_ 12 19) rfl rfl HT_.out ?_
         refine pA_ 5 54 (ml_ 12 51) rfl rfl HT_.out ?_
         refine t2_ 2 51 (ml_ 12 55) rfl rfl HT_.out HW_.out hHeld ?_
         refine t2_ 6 55 (ml_ 12 119) rfl rfl HT_.out HW_.out hHeld ?_
         refine join_ (σ := Nat × Nat) 2 (ml_ 12 1023) (fun s_ => [(52, .agg #[.int .i64 t120, .bool t121]), (56, .agg #[.int .i64 t123, .bool t124]), (6, .pointer (some ⟨s_.1, 0, none⟩)), (7, .pointer (some ⟨s_.2, 0, none⟩))]) (fun s_ w' => (w'.cell? ⟨ad119.block, ad119.off + 1, none⟩ = some (.string (rdOf ByteArray.empty x3_1 1)) ∧ w'.cell? ⟨ad119.block, ad119.off + 2, none⟩ = some (.string (rdOf ByteArray.empty x3_1 2))) ∧ (Kd.R Kd.string 9 w' w.heap.size (fun _ => True) (.slice (some ad119) x3_1.length co34) x3_1) ∧ (w'.heap[gb110]? = some (.cells #[.string (⟨#[]⟩ : ByteArray), .int .i64 0, .int .i64 0] 46 (0, 0))) ∧ (w'.heap[s_.1]? = some (.cells #[.int .i64 0, .bool false] 96 (0, 0))) ∧ (w'.heap[s_.2]? = some (.cells #[.int .i64 0, .bool false] 96 (0, 0))) ∧ (w.heap.size ≤ s_.1) ∧ (w.heap.size ≤ s_.1) ∧ (gb110 ≠ s_.1) ∧ (s_.1 ≠ gb110) ∧ (s_.2 ≠ s_.1) ∧ (s_.1 ≠ s_.2) ∧ (w.heap.size ≤ s_.2) ∧ (w.heap.size ≤ s_.2) ∧ (gb110 ≠ s_.2) ∧ (s_.2 ≠ gb110) ∧ (Below w.heap.size w w')) ?_ ?_
         rotate_left
         ·intro hJ3_7_8_9
          refine join_ (σ := Nat) 3 (ml_ 12 511) (fun s_ => [(52, .agg #[.int .i64 t120, .bool t121]), (56, .agg #[.int .i64 t123, .bool t124]), (6, .pointer (some ⟨s_, 0, none⟩))]) (fun s_ w' => (w'.cell? ⟨ad119.block, ad119.off + 1, none⟩ = some (.string (rdOf ByteArray.empty x3_1 1)) ∧ w'.cell? ⟨ad119.block, ad119.off + 2, none⟩ = some (.string (rdOf ByteArray.empty x3_1 2))) ∧ (Kd.R Kd.string 9 w' w.heap.size (fun _ => True) (.slice (some ad119) x3_1.length co34) x3_1) ∧ (w'.heap[gb110]? = some (.cells #[.string (⟨#[]⟩ : ByteArray), .int .i64 0, .int .i64 0] 46 (0, 0))) ∧ (w'.heap[s_]? = some (.cells #[.int .i64 0, .bool false] 96 (0, 0))) ∧ (w.heap.size ≤ s_) ∧ (w.heap.size ≤ s_) ∧ (gb110 ≠ s_) ∧ (s_ ≠ gb110) ∧ (Below w.heap.size w w')) ?_ ?_
          rotate_left
          ·intro hJ3_7_8
           refine join_ (σ := Nat) 3 (ml_ 12 767) (fun s_ => [(52, .agg #[.int .i64 t120, .bool t121]), (56, .agg #[.int .i64 t123, .bool t124]), (7, .pointer (some ⟨s_, 0, none⟩))]) (fun s_ w' => (w'.cell? ⟨ad119.block, ad119.off + 1, none⟩ = some (.string (rdOf ByteArray.empty x3_1 1)) ∧ w'.cell? ⟨ad119.block, ad119.off + 2, none⟩ = some (.string (rdOf ByteArray.empty x3_1 2))) ∧ (Kd.R Kd.string 9 w' w.heap.size (fun _ => True) (.slice (some ad119) x3_1.length co34) x3_1) ∧ (w'.heap[gb110]? = some (.cells #[.string (⟨#[]⟩ : ByteArray), .int .i64 0, .int .i64 0] 46 (0, 0))) ∧ (w'.heap[s_]? = some (.cells #[.int .i64 0, .bool false] 96 (0, 0))) ∧ (w.heap.size ≤ s_) ∧ (w.heap.size ≤ s_) ∧ (gb110 ≠ s_) ∧ (s_ ≠ gb110) ∧ (Below w.heap.size w w')) ?_ ?_
           rotate_left
           ·intro hJ3_7_9
            refine join_ (σ := Nat × Nat) 3 (ml_ 12 895) (fun s_ => [(52, .agg #[.int .i64 t120, .bool t121]), (6, .pointer (some ⟨s_.1, 0, none⟩)), (7, .pointer (some ⟨s_.2, 0, none⟩))]) (fun s_ w' => (w'.cell? ⟨ad119.block, ad119.off + 1, none⟩ = some (.string (rdOf ByteArray.empty x3_1 1)) ∧ w'.cell? ⟨ad119.block, ad119.off + 2, none⟩ = some (.string (rdOf ByteArray.empty x3_1 2))) ∧ (Kd.R Kd.string 9 w' w.heap.size (fun _ => True) (.slice (some ad119) x3_1.length co34) x3_1) ∧ (w'.heap[gb110]? = some (.cells #[.string (⟨#[]⟩ : ByteArray), .int .i64 0, .int .i64 0] 46 (0, 0))) ∧ (w'.heap[s_.1]? = some (.cells #[.int .i64 0, .bool false] 96 (0, 0))) ∧ (w'.heap[s_.2]? = some (.cells #[.int .i64 0, .bool false] 96 (0, 0))) ∧ (w.heap.size ≤ s_.1) ∧ (w.heap.size ≤ s_.1) ∧ (gb110 ≠ s_.1) ∧ (s_.1 ≠ gb110) ∧ (s_.2 ≠ s_.1) ∧ (s_.1 ≠ s_.2) ∧ (w.heap.size ≤ s_.2) ∧ (w.heap.size ≤ s_.2) ∧ (gb110 ≠ s_.2) ∧ (s_.2 ≠ gb110) ∧ (Below w.heap.size w w')) ?_ ?_
            rotate_left
            ·intro hJ3_8_9
             refine join_ (σ := Unit) 4 (ml_ 12 255) (fun s_ => [(52, .agg #[.int .i64 t120, .bool t121]), (56, .agg #[.int .i64 t123, .bool t124])]) (fun s_ w' => (w'.cell? ⟨ad119.block, ad119.off + 1, none⟩ = some (.string (rdOf ByteArray.empty x3_1 1)) ∧ w'.cell? ⟨ad119.block, ad119.off + 2, none⟩ = some (.string (rdOf ByteArray.empty x3_1 2))) ∧ (Kd.R Kd.string 9 w' w.heap.size (fun _ => True) (.slice (some ad119) x3_1.length co34) x3_1) ∧ (w'.heap[gb110]? = some (.cells #[.string (⟨#[]⟩ : ByteArray), .int .i64 0, .int .i64 0] 46 (0, 0))) ∧ (Below w.heap.size w w')) ?_ ?_
             rotate_left
             ·intro hJ3_7
              refine join_ (σ := Nat) 4 (ml_ 12 383) (fun s_ => [(52, .agg #[.int .i64 t120, .bool t121]), (6, .pointer (some ⟨s_, 0, none⟩))]) (fun s_ w' => (w'.cell? ⟨ad119.block, ad119.off + 1, none⟩ = some (.string (rdOf ByteArray.empty x3_1 1)) ∧ w'.cell? ⟨ad119.block, ad119.off + 2, none⟩ = some (.string (rdOf ByteArray.empty x3_1 2))) ∧ (Kd.R Kd.string 9 w' w.heap.size (fun _ => True) (.slice (some ad119) x3_1.length co34) x3_1) ∧ (w'.heap[gb110]? = some (.cells #[.string (⟨#[]⟩ : ByteArray), .int .i64 0, .int .i64 0] 46 (0, 0))) ∧ (w'.heap[s_]? = some (.cells #[.int .i64 0, .bool false] 96 (0, 0))) ∧ (w.heap.size ≤ s_) ∧ (w.heap.size ≤ s_) ∧ (gb110 ≠ s_) ∧ (s_ ≠ gb110) ∧ (Below w.heap.size w w')) ?_ ?_
              rotate_left
              ·intro hJ3_8
               refine join_ (σ := Nat) 4 (ml_ 12 639) (fun s_ => [(52, .agg #[.int .i64 t120, .bool t121]), (7, .pointer (some ⟨s_, 0, none⟩))]) (fun s_ w' => (w'.cell? ⟨ad119.block, ad119.off + 1, none⟩ = some (.string (rdOf ByteArray.empty x3_1 1)) ∧ w'.cell? ⟨ad119.block, ad119.off + 2, none⟩ = some (.string (rdOf ByteArray.empty x3_1 2))) ∧ (Kd.R Kd.string 9 w' w.heap.size (fun _ => True) (.slice (some ad119) x3_1.length co34) x3_1) ∧ (w'.heap[gb110]? = some (.cells #[.string (⟨#[]⟩ : ByteArray), .int .i64 0, .int .i64 0] 46 (0, 0))) ∧ (w'.heap[s_]? = some (.cells #[.int .i64 0, .bool false] 96 (0, 0))) ∧ (w.heap.size ≤ s_) ∧ (w.heap.size ≤ s_) ∧ (gb110 ≠ s_) ∧ (s_ ≠ gb110) ∧ (Below w.heap.size w w')) ?_ ?_
               rotate_left
               ·intro hJ3_9
                refine join_ (σ := Nat × Nat) 4 (ml_ 12 887) (fun s_ => [(6, .pointer (some ⟨s_.1, 0, none⟩)), (7, .pointer (some ⟨s_.2, 0, none⟩))]) (fun s_ w' => (w'.cell? ⟨ad119.block, ad119.off + 1, none⟩ = some (.string (rdOf ByteArray.empty x3_1 1)) ∧ w'.cell? ⟨ad119.block, ad119.off + 2, none⟩ = some (.string (rdOf ByteArray.empty x3_1 2))) ∧ (Kd.R Kd.string 9 w' w.heap.size (fun _ => True) (.slice (some ad119) x3_1.length co34) x3_1) ∧ (w'.heap[gb110]? = some (.cells #[.string (⟨#[]⟩ : ByteArray), .int .i64 0, .int .i64 0] 46 (0, 0))) ∧ (w'.heap[s_.1]? = some (.cells #[.int .i64 0, .bool false] 96 (0, 0))) ∧ (w'.heap[s_.2]? = some (.cells #[.int .i64 0, .bool false] 96 (0, 0))) ∧ (w.heap.size ≤ s_.1) ∧ (w.heap.size ≤ s_.1) ∧ (gb110 ≠ s_.1) ∧ (s_.1 ≠ gb110) ∧ (s_.2 ≠ s_.1) ∧ (s_.1 ≠ s_.2) ∧ (w.heap.size ≤ s_.2) ∧ (w.heap.size ≤ s_.2) ∧ (gb110 ≠ s_.2) ∧ (s_.2 ≠ gb110) ∧ (Below w.heap.size w w')) ?_ ?_
                rotate_left
                ·intro hJ8_9
                 refine join_ (σ := Unit) 5 (ml_ 12 127) (fun s_ => [(52, .agg #[.int .i64 t120, .bool t121])]) (fun s_ w' => (w'.cell? ⟨ad119.block, ad119.off + 1, none⟩ = some (.string (rdOf ByteArray.empty x3_1 1)) ∧ w'.cell? ⟨ad119.block, ad119.off + 2, none⟩ = some (.string (rdOf ByteArray.empty x3_1 2))) ∧ (Kd.R Kd.string 9 w' w.heap.size (fun _ => True) (.slice (some ad119) x3_1.length co34) x3_1) ∧ (w'.heap[gb110]? = some (.cells #[.string (⟨#[]⟩ : ByteArray), .int .i64 0, .int .i64 0] 46 (0, 0))) ∧ (Below w.heap.size w w')) ?_ ?_
                 rotate_left
                 ·intro hJ3
                  refine join_ (σ := Nat) 5 (ml_ 12 375) (fun s_ => [(6, .pointer (some ⟨s_, 0, none⟩))]) (fun s_ w' => (w'.cell? ⟨ad119.block, ad119.off + 1, none⟩ = some (.string (rdOf ByteArray.empty x3_1 1)) ∧ w'.cell? ⟨ad119.block, ad119.off + 2, none⟩ = some (.string (rdOf ByteArray.empty x3_1 2))) ∧ (Kd.R Kd.string 9 w' w.heap.size (fun _ => True) (.slice (some ad119) x3_1.length co34) x3_1) ∧ (w'.heap[gb110]? = some (.cells #[.string (⟨#[]⟩ : ByteArray), .int .i64 0, .int .i64 0] 46 (0, 0))) ∧ (w'.heap[s_]? = some (.cells #[.int .i64 0, .bool false] 96 (0, 0))) ∧ (w.heap.size ≤ s_) ∧ (w.heap.size ≤ s_) ∧ (gb110 ≠ s_) ∧ (s_ ≠ gb110) ∧ (Below w.heap.size w w')) ?_ ?_
                  rotate_left
                  ·intro hJ8
                   refine join_ (σ := Nat) 5 (ml_ 12 631) (fun s_ => [(7, .pointer (some ⟨s_, 0, none⟩))]) (fun s_ w' => (w'.cell? ⟨ad119.block, ad119.off + 1, none⟩ = some (.string (rdOf ByteArray.empty x3_1 1)) ∧ w'.cell? ⟨ad119.block, ad119.off + 2, none⟩ = some (.string (rdOf ByteArray.empty x3_1 2))) ∧ (Kd.R Kd.string 9 w' w.heap.size (fun _ => True) (.slice (some ad119) x3_1.length co34) x3_1) ∧ (w'.heap[gb110]? = some (.cells #[.string (⟨#[]⟩ : ByteArray), .int .i64 0, .int .i64 0] 46 (0, 0))) ∧ (w'.heap[s_]? = some (.cells #[.int .i64 0, .bool false] 96 (0, 0))) ∧ (w.heap.size ≤ s_) ∧ (w.heap.size ≤ s_) ∧ (gb110 ≠ s_) ∧ (s_ ≠ gb110) ∧ (Below w.heap.size w w')) ?_ ?_
                   rotate_left
                   ·intro hJ9
                    refine three_ (i := 3) (j := 8) (k := 9) (Ni := some 52) (Nj := some 6) (Nk := some 7) (ml_ 12 127) (ml_ 12 375) (ml_ 12 631) rfl rfl rfl rfl rfl rfl (three_of HT_.out (by kernel_rfl)) (by decide) (by decide) (by decide) (fun K hK => ?_) (fun K hK => ?_) (fun K hK => ?_)
                    ·skip
                     refine goes_ Tryd.func37 (by kernel_rfl) rfl #[.string (rdOf ByteArray.empty x3_1 1)] (by rfl) rfl rfl qM_ ?_
                     with_reducible refine (caravanref5_Number.calls kj18 (rdOf ByteArray.empty x3_1 1) t120 t121 _ A29.out).mono ?_
                     rintro e w35 ⟨rfl, hb⟩
                     have HS0_ := (hb.cell (World.block_lt_of_cell? _ _ (hHeld.1))).trans (hHeld.1)
                     have HS1_ := (hb.cell (World.block_lt_of_cell? _ _ (hHeld.2))).trans (hHeld.2)
                     refine ⟨_, rfl, ?_⟩
                     have n0_ := Aside0.mk (Kd.R_below (q8524_ HO_3.out) hb)
                     have n1_ := Aside0.mk (blk_below (g := gb110) (o := .cells #[.string (⟨#[]⟩ : ByteArray), .int .i64 0, .int .i64 0] 46 (0, 0)) (q1466_ BK110.out) hb)
                     have n2_ := Aside0.mk (below_step (qed14_ HB.out GE110.out) hb)
                     clear HO_3
                     clear BK110
                     clear HB
                     have HO_3 := n0_
                     have BK110 := n1_
                     have HB := n2_
                     clear n0_ n1_ n2_
                     (try clear hb)
                     (try clear hb2)
                     (try clear hk)
                     (try clear hi)
                     refine hK.out _ _ ⟨HS0_, HS1_⟩ (fun hHeld => ?_)
                     clear hK K
                     refine nA_ 52 ?_
                     exact norm_ (by first | (simp only [putAll, Act.put, List.setIfInBounds_toArray, List.set_cons_zero, List.set_cons_succ]; done) | (simp only [putAll, Act.put, List.setIfInBounds_toArray, List.set_cons_zero, List.set_cons_succ]; rfl)) (hJ3 () _ ⟨hHeld, (q8524_ HO_3.out), (q1466_ BK110.out), (qed14_ HB.out GE110.out)⟩)
                    ·skip
                     refine box_step ?hg (N := 6) ?hd (cs := #[.int .i64 0, .bool false]) (t := 96) ?hr ?_; (case hd => rfl); (case hg => rfl); (case hr => first | (go_simp; done) | (go_simp; rfl))
                     intro gb125 hg w35 hbox hb
                     have HS0_ := (hb.cell (World.block_lt_of_cell? _ _ (hHeld.1))).trans (hHeld.1)
                     have HS1_ := (hb.cell (World.block_lt_of_cell? _ _ (hHeld.2))).trans (hHeld.2)
                     have n0_ := Aside0.mk (Kd.R_below (q8524_ HO_3.out) hb)
                     have n1_ := Aside0.mk (blk_below (g := gb110) (o := .cells #[.string (⟨#[]⟩ : ByteArray), .int .i64 0, .int .i64 0] 46 (0, 0)) (q1466_ BK110.out) hb)
                     have n2_ := Aside0.mk (below_step (qed14_ HB.out GE110.out) hb)
                     have n3_ := Aside0.mk (hbox)
                     have n4_ := Aside0.mk ((by rw [hg]; exact (below_size (qed14_ HB.out GE110.out)) : w.heap.size ≤ gb125))
                     have n5_ := Aside0.mk ((by rw [hg]; exact (below_size (qed14_ HB.out GE110.out)) : w.heap.size ≤ gb125))
                     have n6_ := Aside0.mk ((by rw [hg]; exact Nat.ne_of_lt (blk_lt (g := gb110) (o := .cells #[.string (⟨#[]⟩ : ByteArray), .int .i64 0, .int .i64 0] 46 (0, 0)) (q1466_ BK110.out)) : gb110 ≠ gb125))
                     have n7_ := Aside0.mk ((by rw [hg]; exact Nat.ne_of_gt (blk_lt (g := gb110) (o := .cells #[.string (⟨#[]⟩ : ByteArray), .int .i64 0, .int .i64 0] 46 (0, 0)) (q1466_ BK110.out)) : gb125 ≠ gb110))
                     clear HO_3
                     clear BK110
                     clear HB
                     have HO_3 := n0_
                     have BK110 := n1_
                     have HB := n2_
                     have BK125 := n3_
                     have GW125 := n4_
                     have GE125 := n5_
                     have NB110_125 := n6_
                     have NB125_110 := n7_
                     clear n0_ n1_ n2_ n3_ n4_ n5_ n6_ n7_
                     clear hb hbox hg
                     refine hK.out _ _ ⟨HS0_, HS1_⟩ (fun hHeld => ?_)
                     clear hK K
                     refine nA_ 6 ?_
                     exact norm_ (by first | (simp only [putAll, Act.put, List.setIfInBounds_toArray, List.set_cons_zero, List.set_cons_succ]; done) | (simp only [putAll, Act.put, List.setIfInBounds_toArray, List.set_cons_zero, List.set_cons_succ]; rfl)) (hJ8 (gb125) _ ⟨hHeld, (q8524_ HO_3.out), (q1466_ BK110.out), (q1466_ BK125.out), GW125.out, GE125.out, NB110_125.out, NB125_110.out, (q8f57_ HB.out GE110.out GE125.out)⟩)
                    ·skip
                     refine box_step ?hg (N := 7) ?hd (cs := #[.int .i64 0, .bool false]) (t := 96) ?hr ?_; (case hd => rfl); (case hg => rfl); (case hr => first | (go_simp; done) | (go_simp; rfl))
                     intro gb126 hg w35 hbox hb
                     have HS0_ := (hb.cell (World.block_lt_of_cell? _ _ (hHeld.1))).trans (hHeld.1)
                     have HS1_ := (hb.cell (World.block_lt_of_cell? _ _ (hHeld.2))).trans (hHeld.2)
                     have n0_ := Aside0.mk (Kd.R_below (q8524_ HO_3.out) hb)
                     have n1_ := Aside0.mk (blk_below (g := gb110) (o := .cells #[.string (⟨#[]⟩ : ByteArray), .int .i64 0, .int .i64 0] 46 (0, 0)) (q1466_ BK110.out) hb)
                     have n2_ := Aside0.mk (below_step (qed14_ HB.out GE110.out) hb)
                     have n3_ := Aside0.mk (hbox)
                     have n4_ := Aside0.mk ((by rw [hg]; exact (below_size (qed14_ HB.out GE110.out)) : w.heap.size ≤ gb126))
                     have n5_ := Aside0.mk ((by rw [hg]; exact (below_size (qed14_ HB.out GE110.out)) : w.heap.size ≤ gb126))
                     have n6_ := Aside0.mk ((by rw [hg]; exact Nat.ne_of_lt (blk_lt (g := gb110) (o := .cells #[.string (⟨#[]⟩ : ByteArray), .int .i64 0, .int .i64 0] 46 (0, 0)) (q1466_ BK110.out)) : gb110 ≠ gb126))
                     have n7_ := Aside0.mk ((by rw [hg]; exact Nat.ne_of_gt (blk_lt (g := gb110) (o := .cells #[.string (⟨#[]⟩ : ByteArray), .int .i64 0, .int .i64 0] 46 (0, 0)) (q1466_ BK110.out)) : gb126 ≠ gb110))
                     clear HO_3
                     clear BK110
                     clear HB
                     have HO_3 := n0_
                     have BK110 := n1_
                     have HB := n2_
                     have BK126 := n3_
                     have GW126 := n4_
                     have GE126 := n5_
                     have NB110_126 := n6_
                     have NB126_110 := n7_
                     clear n0_ n1_ n2_ n3_ n4_ n5_ n6_ n7_
                     clear hb hbox hg
                     refine hK.out _ _ ⟨HS0_, HS1_⟩ (fun hHeld => ?_)
                     clear hK K
                     refine nA_ 7 ?_
                     exact norm_ (by first | (simp only [putAll, Act.put, List.setIfInBounds_toArray, List.set_cons_zero, List.set_cons_succ]; done) | (simp only [putAll, Act.put, List.setIfInBounds_toArray, List.set_cons_zero, List.set_cons_succ]; rfl)) (hJ9 (gb126) _ ⟨hHeld, (q8524_ HO_3.out), (q1466_ BK110.out), (q1466_ BK126.out), GW126.out, GE126.out, NB110_126.out, NB126_110.out, (q8f57_ HB.out GE110.out GE126.out)⟩)
                   ·skip
                    rintro gb126 w36 ⟨hS_, h0_, h1_, h2_, h3_, h4_, h5_, h6_, h7_⟩
                    have n0_ : Aside0 (Kd.R Kd.string 9 w36 w.heap.size (fun _ => True) (.slice (some ad119) x3_1.length co34) x3_1) := ⟨h0_⟩
                    have n1_ : Aside0 (w36.heap[gb110]? = some (.cells #[.string (⟨#[]⟩ : ByteArray), .int .i64 0, .int .i64 0] 46 (0, 0))) := ⟨h1_⟩
                    have n2_ : Aside0 (w36.heap[gb126]? = some (.cells #[.int .i64 0, .bool false] 96 (0, 0))) := ⟨h2_⟩
                    have n3_ : Aside0 (w.heap.size ≤ gb126) := ⟨h3_⟩
                    have n4_ : Aside0 (w.heap.size ≤ gb126) := ⟨h4_⟩
                    have n5_ : Aside0 (gb110 ≠ gb126) := ⟨h5_⟩
                    have n6_ : Aside0 (gb126 ≠ gb110) := ⟨h6_⟩
                    have n7_ : Aside0 (Below w.heap.size w w36) := ⟨h7_⟩
                    clear HO_3
                    clear BK110
                    clear HB
                    clear h0_ h1_ h2_ h3_ h4_ h5_ h6_ h7_
                    have HO_3 := n0_
                    have BK110 := n1_
                    have BK126 := n2_
                    have GW126 := n3_
                    have GE126 := n4_
                    have NB110_126 := n5_
                    have NB126_110 := n6_
                    have HB := n7_
                    clear n0_ n1_ n2_ n3_ n4_ n5_ n6_ n7_
                    have hHeld : w36.cell? ⟨ad119.block, ad119.off + 1, none⟩ = some (.string (rdOf ByteArray.empty x3_1 1)) ∧ w36.cell? ⟨ad119.block, ad119.off + 2, none⟩ = some (.string (rdOf ByteArray.empty x3_1 2)) := hS_
                    refine norm_ (a' := ?_) ?_ ?_
                    rotate_left
                    ·simp only [putAll, Act.put, List.setIfInBounds_toArray, List.set_cons_zero, List.set_cons_succ]
                     rfl
                    refine two_ (i := 3) (j := 8) (Ni := some 52) (Nj := some 6) (ml_ 12 639) (ml_ 12 887) rfl rfl rfl rfl (two_of HT_.out (by kernel_rfl)) (by decide) (by decide) (fun K hK => ?_) (fun K hK => ?_)
                    ·skip
                     refine goes_ Tryd.func37 (by kernel_rfl) rfl #[.string (rdOf ByteArray.empty x3_1 1)] (by rfl) rfl rfl qM_ ?_
                     with_reducible refine (caravanref5_Number.calls kj18 (rdOf ByteArray.empty x3_1 1) t120 t121 _ A29.out).mono ?_
                     rintro e w37 ⟨rfl, hb⟩
                     have HS0_ := (hb.cell (World.block_lt_of_cell? _ _ (hHeld.1))).trans (hHeld.1)
                     have HS1_ := (hb.cell (World.block_lt_of_cell? _ _ (hHeld.2))).trans (hHeld.2)
                     refine ⟨_, rfl, ?_⟩
                     have n0_ := Aside0.mk (Kd.R_below (q8524_ HO_3.out) hb)
                     have n1_ := Aside0.mk (blk_below (g := gb110) (o := .cells #[.string (⟨#[]⟩ : ByteArray), .int .i64 0, .int .i64 0] 46 (0, 0)) (q1466_ BK110.out) hb)
                     have n2_ := Aside0.mk (blk_below (g := gb126) (o := .cells #[.int .i64 0, .bool false] 96 (0, 0)) (q1466_ BK126.out) hb)
                     have n3_ := Aside0.mk (below_step (q8f57_ HB.out GE110.out GE126.out) hb)
                     clear HO_3
                     clear BK110
                     clear BK126
                     clear HB
                     have HO_3 := n0_
                     have BK110 := n1_
                     have BK126 := n2_
                     have HB := n3_
                     clear n0_ n1_ n2_ n3_
                     (try clear hb)
                     (try clear hb2)
                     (try clear hk)
                     (try clear hi)
                     refine hK.out _ _ ⟨HS0_, HS1_⟩ (fun hHeld => ?_)
                     clear hK K
                     refine nA_ 52 ?_
                     exact norm_ (by first | (simp only [putAll, Act.put, List.setIfInBounds_toArray, List.set_cons_zero, List.set_cons_succ]; done) | (simp only [putAll, Act.put, List.setIfInBounds_toArray, List.set_cons_zero, List.set_cons_succ]; rfl)) (hJ3_9 (gb126) _ ⟨hHeld, (q8524_ HO_3.out), (q1466_ BK110.out), (q1466_ BK126.out), GW126.out, GE126.out, NB110_126.out, NB126_110.out, (q8f57_ HB.out GE110.out GE126.out)⟩)
                    ·skip
                     refine box_step ?hg (N := 6) ?hd (cs := #[.int .i64 0, .bool false]) (t := 96) ?hr ?_; (case hd => rfl); (case hg => rfl); (case hr => first | (go_simp; done) | (go_simp; rfl))
                     intro gb125 hg w37 hbox hb
                     have HS0_ := (hb.cell (World.block_lt_of_cell? _ _ (hHeld.1))).trans (hHeld.1)
                     have HS1_ := (hb.cell (World.block_lt_of_cell? _ _ (hHeld.2))).trans (hHeld.2)
                     have n0_ := Aside0.mk (Kd.R_below (q8524_ HO_3.out) hb)
                     have n1_ := Aside0.mk (blk_below (g := gb110) (o := .cells #[.string (⟨#[]⟩ : ByteArray), .int .i64 0, .int .i64 0] 46 (0, 0)) (q1466_ BK110.out) hb)
                     have n2_ := Aside0.mk (blk_below (g := gb126) (o := .cells #[.int .i64 0, .bool false] 96 (0, 0)) (q1466_ BK126.out) hb)
                     have n3_ := Aside0.mk (below_step (q8f57_ HB.out GE110.out GE126.out) hb)
                     have n4_ := Aside0.mk (hbox)
                     have n5_ := Aside0.mk ((by rw [hg]; exact (below_size (q8f57_ HB.out GE110.out GE126.out)) : w.heap.size ≤ gb125))
                     have n6_ := Aside0.mk ((by rw [hg]; exact (below_size (q8f57_ HB.out GE110.out GE126.out)) : w.heap.size ≤ gb125))
                     have n7_ := Aside0.mk ((by rw [hg]; exact Nat.ne_of_lt (blk_lt (g := gb110) (o := .cells #[.string (⟨#[]⟩ : ByteArray), .int .i64 0, .int .i64 0] 46 (0, 0)) (q1466_ BK110.out)) : gb110 ≠ gb125))
                     have n8_ := Aside0.mk ((by rw [hg]; exact Nat.ne_of_gt (blk_lt (g := gb110) (o := .cells #[.string (⟨#[]⟩ : ByteArray), .int .i64 0, .int .i64 0] 46 (0, 0)) (q1466_ BK110.out)) : gb125 ≠ gb110))
                     have n9_ := Aside0.mk ((by rw [hg]; exact Nat.ne_of_lt (blk_lt (g := gb126) (o := .cells #[.int .i64 0, .bool false] 96 (0, 0)) (q1466_ BK126.out)) : gb126 ≠ gb125))
                     have n10_ := Aside0.mk ((by rw [hg]; exact Nat.ne_of_gt (blk_lt (g := gb126) (o := .cells #[.int .i64 0, .bool false] 96 (0, 0)) (q1466_ BK126.out)) : gb125 ≠ gb126))
                     clear HO_3
                     clear BK110
                     clear BK126
                     clear HB
                     have HO_3 := n0_
                     have BK110 := n1_
                     have BK126 := n2_
                     have HB := n3_
                     have BK125 := n4_
                     have GW125 := n5_
                     have GE125 := n6_
                     have NB110_125 := n7_
                     have NB125_110 := n8_
                     have NB126_125 := n9_
                     have NB125_126 := n10_
                     clear n0_ n1_ n2_ n3_ n4_ n5_ n6_ n7_ n8_ n9_ n10_
                     clear hb hbox hg
                     refine hK.out _ _ ⟨HS0_, HS1_⟩ (fun hHeld => ?_)
                     clear hK K
                     refine nA_ 6 ?_
                     exact norm_ (by first | (simp only [putAll, Act.put, List.setIfInBounds_toArray, List.set_cons_zero, List.set_cons_succ]; done) | (simp only [putAll, Act.put, List.setIfInBounds_toArray, List.set_cons_zero, List.set_cons_succ]; rfl)) (hJ8_9 (gb125, gb126) _ ⟨hHeld, (q8524_ HO_3.out), (q1466_ BK110.out), (q1466_ BK125.out), (q1466_ BK126.out), GW125.out, GE125.out, NB110_125.out, NB125_110.out, NB126_125.out, NB125_126.out, GW126.out, GE126.out, NB110_126.out, NB126_110.out, (q1dc4_ HB.out GE110.out GE126.out GE125.out)⟩)
                  ·skip
                   rintro gb125 w36 ⟨hS_, h0_, h1_, h2_, h3_, h4_, h5_, h6_, h7_⟩
                   have n0_ : Aside0 (Kd.R Kd.string 9 w36 w.heap.size (fun _ => True) (.slice (some ad119) x3_1.length co34) x3_1) := ⟨h0_⟩
                   have n1_ : Aside0 (w36.heap[gb110]? = some (.cells #[.string (⟨#[]⟩ : ByteArray), .int .i64 0, .int .i64 0] 46 (0, 0))) := ⟨h1_⟩
                   have n2_ : Aside0 (w36.heap[gb125]? = some (.cells #[.int .i64 0, .bool false] 96 (0, 0))) := ⟨h2_⟩
                   have n3_ : Aside0 (w.heap.size ≤ gb125) := ⟨h3_⟩
                   have n4_ : Aside0 (w.heap.size ≤ gb125) := ⟨h4_⟩
                   have n5_ : Aside0 (gb110 ≠ gb125) := ⟨h5_⟩
                   have n6_ : Aside0 (gb125 ≠ gb110) := ⟨h6_⟩
                   have n7_ : Aside0 (Below w.heap.size w w36) := ⟨h7_⟩
                   clear HO_3
                   clear BK110
                   clear HB
                   clear h0_ h1_ h2_ h3_ h4_ h5_ h6_ h7_
                   have HO_3 := n0_
                   have BK110 := n1_
                   have BK125 := n2_
                   have GW125 := n3_
                   have GE125 := n4_
                   have NB110_125 := n5_
                   have NB125_110 := n6_
                   have HB := n7_
                   clear n0_ n1_ n2_ n3_ n4_ n5_ n6_ n7_
                   have hHeld : w36.cell? ⟨ad119.block, ad119.off + 1, none⟩ = some (.string (rdOf ByteArray.empty x3_1 1)) ∧ w36.cell? ⟨ad119.block, ad119.off + 2, none⟩ = some (.string (rdOf ByteArray.empty x3_1 2)) := hS_
                   refine norm_ (a' := ?_) ?_ ?_
                   rotate_left
                   ·simp only [putAll, Act.put, List.setIfInBounds_toArray, List.set_cons_zero, List.set_cons_succ]
                    rfl
                   refine two_ (i := 3) (j := 9) (Ni := some 52) (Nj := some 7) (ml_ 12 383) (ml_ 12 887) rfl rfl rfl rfl (two_of HT_.out (by kernel_rfl)) (by decide) (by decide) (fun K hK => ?_) (fun K hK => ?_)
                   ·skip
                    refine goes_ Tryd.func37 (by kernel_rfl) rfl #[.string (rdOf ByteArray.empty x3_1 1)] (by rfl) rfl rfl qM_ ?_
                    with_reducible refine (caravanref5_Number.calls kj18 (rdOf ByteArray.empty x3_1 1) t120 t121 _ A29.out).mono ?_
                    rintro e w37 ⟨rfl, hb⟩
                    have HS0_ := (hb.cell (World.block_lt_of_cell? _ _ (hHeld.1))).trans (hHeld.1)
                    have HS1_ := (hb.cell (World.block_lt_of_cell? _ _ (hHeld.2))).trans (hHeld.2)
                    refine ⟨_, rfl, ?_⟩
                    have n0_ := Aside0.mk (Kd.R_below (q8524_ HO_3.out) hb)
                    have n1_ := Aside0.mk (blk_below (g := gb110) (o := .cells #[.string (⟨#[]⟩ : ByteArray), .int .i64 0, .int .i64 0] 46 (0, 0)) (q1466_ BK110.out) hb)
                    have n2_ := Aside0.mk (blk_below (g := gb125) (o := .cells #[.int .i64 0, .bool false] 96 (0, 0)) (q1466_ BK125.out) hb)
                    have n3_ := Aside0.mk (below_step (q8f57_ HB.out GE110.out GE125.out) hb)
                    clear HO_3
                    clear BK110
                    clear BK125
                    clear HB
                    have HO_3 := n0_
                    have BK110 := n1_
                    have BK125 := n2_
                    have HB := n3_
                    clear n0_ n1_ n2_ n3_
                    (try clear hb)
                    (try clear hb2)
                    (try clear hk)
                    (try clear hi)
                    refine hK.out _ _ ⟨HS0_, HS1_⟩ (fun hHeld => ?_)
                    clear hK K
                    refine nA_ 52 ?_
                    exact norm_ (by first | (simp only [putAll, Act.put, List.setIfInBounds_toArray, List.set_cons_zero, List.set_cons_succ]; done) | (simp only [putAll, Act.put, List.setIfInBounds_toArray, List.set_cons_zero, List.set_cons_succ]; rfl)) (hJ3_8 (gb125) _ ⟨hHeld, (q8524_ HO_3.out), (q1466_ BK110.out), (q1466_ BK125.out), GW125.out, GE125.out, NB110_125.out, NB125_110.out, (q8f57_ HB.out GE110.out GE125.out)⟩)
                   ·skip
                    refine box_step ?hg (N := 7) ?hd (cs := #[.int .i64 0, .bool false]) (t := 96) ?hr ?_; (case hd => rfl); (case hg => rfl); (case hr => first | (go_simp; done) | (go_simp; rfl))
                    intro gb126 hg w37 hbox hb
                    have HS0_ := (hb.cell (World.block_lt_of_cell? _ _ (hHeld.1))).trans (hHeld.1)
                    have HS1_ := (hb.cell (World.block_lt_of_cell? _ _ (hHeld.2))).trans (hHeld.2)
                    have n0_ := Aside0.mk (Kd.R_below (q8524_ HO_3.out) hb)
                    have n1_ := Aside0.mk (blk_below (g := gb110) (o := .cells #[.string (⟨#[]⟩ : ByteArray), .int .i64 0, .int .i64 0] 46 (0, 0)) (q1466_ BK110.out) hb)
                    have n2_ := Aside0.mk (blk_below (g := gb125) (o := .cells #[.int .i64 0, .bool false] 96 (0, 0)) (q1466_ BK125.out) hb)
                    have n3_ := Aside0.mk (below_step (q8f57_ HB.out GE110.out GE125.out) hb)
                    have n4_ := Aside0.mk (hbox)
                    have n5_ := Aside0.mk ((by rw [hg]; exact (below_size (q8f57_ HB.out GE110.out GE125.out)) : w.heap.size ≤ gb126))
                    have n6_ := Aside0.mk ((by rw [hg]; exact (below_size (q8f57_ HB.out GE110.out GE125.out)) : w.heap.size ≤ gb126))
                    have n7_ := Aside0.mk ((by rw [hg]; exact Nat.ne_of_lt (blk_lt (g := gb110) (o := .cells #[.string (⟨#[]⟩ : ByteArray), .int .i64 0, .int .i64 0] 46 (0, 0)) (q1466_ BK110.out)) : gb110 ≠ gb126))
                    have n8_ := Aside0.mk ((by rw [hg]; exact Nat.ne_of_gt (blk_lt (g := gb110) (o := .cells #[.string (⟨#[]⟩ : ByteArray), .int .i64 0, .int .i64 0] 46 (0, 0)) (q1466_ BK110.out)) : gb126 ≠ gb110))
                    have n9_ := Aside0.mk ((by rw [hg]; exact Nat.ne_of_lt (blk_lt (g := gb125) (o := .cells #[.int .i64 0, .bool false] 96 (0, 0)) (q1466_ BK125.out)) : gb125 ≠ gb126))
                    have n10_ := Aside0.mk ((by rw [hg]; exact Nat.ne_of_gt (blk_lt (g := gb125) (o := .cells #[.int .i64 0, .bool false] 96 (0, 0)) (q1466_ BK125.out)) : gb126 ≠ gb125))
                    clear HO_3
                    clear BK110
                    clear BK125
                    clear HB
                    have HO_3 := n0_
                    have BK110 := n1_
                    have BK125 := n2_
                    have HB := n3_
                    have BK126 := n4_
                    have GW126 := n5_
                    have GE126 := n6_
                    have NB110_126 := n7_
                    have NB126_110 := n8_
                    have NB125_126 := n9_
                    have NB126_125 := n10_
                    clear n0_ n1_ n2_ n3_ n4_ n5_ n6_ n7_ n8_ n9_ n10_
                    clear hb hbox hg
                    refine hK.out _ _ ⟨HS0_, HS1_⟩ (fun hHeld => ?_)
                    clear hK K
                    refine nA_ 7 ?_
                    exact norm_ (by first | (simp only [putAll, Act.put, List.setIfInBounds_toArray, List.set_cons_zero, List.set_cons_succ]; done) | (simp only [putAll, Act.put, List.setIfInBounds_toArray, List.set_cons_zero, List.set_cons_succ]; rfl)) (hJ8_9 (gb125, gb126) _ ⟨hHeld, (q8524_ HO_3.out), (q1466_ BK110.out), (q1466_ BK125.out), (q1466_ BK126.out), GW125.out, GE125.out, NB110_125.out, NB125_110.out, NB126_125.out, NB125_126.out, GW126.out, GE126.out, NB110_126.out, NB126_110.out, (q1dc4_ HB.out GE110.out GE125.out GE126.out)⟩)
                 ·skip
                  rintro _ w36 ⟨hS_, h0_, h1_, h2_⟩
                  have n0_ : Aside0 (Kd.R Kd.string 9 w36 w.heap.size (fun _ => True) (.slice (some ad119) x3_1.length co34) x3_1) := ⟨h0_⟩
                  have n1_ : Aside0 (w36.heap[gb110]? = some (.cells #[.string (⟨#[]⟩ : ByteArray), .int .i64 0, .int .i64 0] 46 (0, 0))) := ⟨h1_⟩
                  have n2_ : Aside0 (Below w.heap.size w w36) := ⟨h2_⟩
                  clear HO_3
                  clear BK110
                  clear HB
                  clear h0_ h1_ h2_
                  have HO_3 := n0_
                  have BK110 := n1_
                  have HB := n2_
                  clear n0_ n1_ n2_
                  have hHeld : w36.cell? ⟨ad119.block, ad119.off + 1, none⟩ = some (.string (rdOf ByteArray.empty x3_1 1)) ∧ w36.cell? ⟨ad119.block, ad119.off + 2, none⟩ = some (.string (rdOf ByteArray.empty x3_1 2)) := hS_
                  refine norm_ (a' := ?_) ?_ ?_
                  rotate_left
                  ·simp only [putAll, Act.put, List.setIfInBounds_toArray, List.set_cons_zero, List.set_cons_succ]
                   rfl
                  refine three_ (i := 7) (j := 8) (k := 9) (Ni := some 56) (Nj := some 6) (Nk := some 7) (ml_ 12 255) (ml_ 12 383) (ml_ 12 639) rfl rfl rfl rfl rfl rfl (three_of HT_.out (by kernel_rfl)) (by decide) (by decide) (by decide) (fun K hK => ?_) (fun K hK => ?_) (fun K hK => ?_)
                  ·skip
                   refine goes_ Tryd.func37 (by kernel_rfl) rfl #[.string (rdOf ByteArray.empty x3_1 2)] (by rfl) rfl rfl qM_ ?_
                   with_reducible refine (caravanref5_Number.calls kj18 (rdOf ByteArray.empty x3_1 2) t123 t124 _ A31.out).mono ?_
                   rintro e w37 ⟨rfl, hb⟩
                   have HS0_ := (hb.cell (World.block_lt_of_cell? _ _ (hHeld.1))).trans (hHeld.1)
                   have HS1_ := (hb.cell (World.block_lt_of_cell? _ _ (hHeld.2))).trans (hHeld.2)
                   refine ⟨_, rfl, ?_⟩
                   have n0_ := Aside0.mk (Kd.R_below (q8524_ HO_3.out) hb)
                   have n1_ := Aside0.mk (blk_below (g := gb110) (o := .cells #[.string (⟨#[]⟩ : ByteArray), .int .i64 0, .int .i64 0] 46 (0, 0)) (q1466_ BK110.out) hb)
                   have n2_ := Aside0.mk (below_step (qed14_ HB.out GE110.out) hb)
                   clear HO_3
                   clear BK110
                   clear HB
                   have HO_3 := n0_
                   have BK110 := n1_
                   have HB := n2_
                   clear n0_ n1_ n2_
                   (try clear hb)
                   (try clear hb2)
                   (try clear hk)
                   (try clear hi)
                   refine hK.out _ _ ⟨HS0_, HS1_⟩ (fun hHeld => ?_)
                   clear hK K
                   refine nA_ 56 ?_
                   exact norm_ (by first | (simp only [putAll, Act.put, List.setIfInBounds_toArray, List.set_cons_zero, List.set_cons_succ]; done) | (simp only [putAll, Act.put, List.setIfInBounds_toArray, List.set_cons_zero, List.set_cons_succ]; rfl)) (hJ3_7 () _ ⟨hHeld, (q8524_ HO_3.out), (q1466_ BK110.out), (qed14_ HB.out GE110.out)⟩)
                  ·skip
                   refine box_step ?hg (N := 6) ?hd (cs := #[.int .i64 0, .bool false]) (t := 96) ?hr ?_; (case hd => rfl); (case hg => rfl); (case hr => first | (go_simp; done) | (go_simp; rfl))
                   intro gb125 hg w37 hbox hb
                   have HS0_ := (hb.cell (World.block_lt_of_cell? _ _ (hHeld.1))).trans (hHeld.1)
                   have HS1_ := (hb.cell (World.block_lt_of_cell? _ _ (hHeld.2))).trans (hHeld.2)
                   have n0_ := Aside0.mk (Kd.R_below (q8524_ HO_3.out) hb)
                   have n1_ := Aside0.mk (blk_below (g := gb110) (o := .cells #[.string (⟨#[]⟩ : ByteArray), .int .i64 0, .int .i64 0] 46 (0, 0)) (q1466_ BK110.out) hb)
                   have n2_ := Aside0.mk (below_step (qed14_ HB.out GE110.out) hb)
                   have n3_ := Aside0.mk (hbox)
                   have n4_ := Aside0.mk ((by rw [hg]; exact (below_size (qed14_ HB.out GE110.out)) : w.heap.size ≤ gb125))
                   have n5_ := Aside0.mk ((by rw [hg]; exact (below_size (qed14_ HB.out GE110.out)) : w.heap.size ≤ gb125))
                   have n6_ := Aside0.mk ((by rw [hg]; exact Nat.ne_of_lt (blk_lt (g := gb110) (o := .cells #[.string (⟨#[]⟩ : ByteArray), .int .i64 0, .int .i64 0] 46 (0, 0)) (q1466_ BK110.out)) : gb110 ≠ gb125))
                   have n7_ := Aside0.mk ((by rw [hg]; exact Nat.ne_of_gt (blk_lt (g := gb110) (o := .cells #[.string (⟨#[]⟩ : ByteArray), .int .i64 0, .int .i64 0] 46 (0, 0)) (q1466_ BK110.out)) : gb125 ≠ gb110))
                   clear HO_3
                   clear BK110
                   clear HB
                   have HO_3 := n0_
                   have BK110 := n1_
                   have HB := n2_
                   have BK125 := n3_
                   have GW125 := n4_
                   have GE125 := n5_
                   have NB110_125 := n6_
                   have NB125_110 := n7_
                   clear n0_ n1_ n2_ n3_ n4_ n5_ n6_ n7_
                   clear hb hbox hg
                   refine hK.out _ _ ⟨HS0_, HS1_⟩ (fun hHeld => ?_)
                   clear hK K
                   refine nA_ 6 ?_
                   exact norm_ (by first | (simp only [putAll, Act.put, List.setIfInBounds_toArray, List.set_cons_zero, List.set_cons_succ]; done) | (simp only [putAll, Act.put, List.setIfInBounds_toArray, List.set_cons_zero, List.set_cons_succ]; rfl)) (hJ3_8 (gb125) _ ⟨hHeld, (q8524_ HO_3.out), (q1466_ BK110.out), (q1466_ BK125.out), GW125.out, GE125.out, NB110_125.out, NB125_110.out, (q8f57_ HB.out GE110.out GE125.out)⟩)
                  ·skip
                   refine box_step ?hg (N := 7) ?hd (cs := #[.int .i64 0, .bool false]) (t := 96) ?hr ?_; (case hd => rfl); (case hg => rfl); (case hr => first | (go_simp; done) | (go_simp; rfl))
                   intro gb126 hg w37 hbox hb
                   have HS0_ := (hb.cell (World.block_lt_of_cell? _ _ (hHeld.1))).trans (hHeld.1)
                   have HS1_ := (hb.cell (World.block_lt_of_cell? _ _ (hHeld.2))).trans (hHeld.2)
                   have n0_ := Aside0.mk (Kd.R_below (q8524_ HO_3.out) hb)
                   have n1_ := Aside0.mk (blk_below (g := gb110) (o := .cells #[.string (⟨#[]⟩ : ByteArray), .int .i64 0, .int .i64 0] 46 (0, 0)) (q1466_ BK110.out) hb)
                   have n2_ := Aside0.mk (below_step (qed14_ HB.out GE110.out) hb)
                   have n3_ := Aside0.mk (hbox)
                   have n4_ := Aside0.mk ((by rw [hg]; exact (below_size (qed14_ HB.out GE110.out)) : w.heap.size ≤ gb126))
                   have n5_ := Aside0.mk ((by rw [hg]; exact (below_size (qed14_ HB.out GE110.out)) : w.heap.size ≤ gb126))
                   have n6_ := Aside0.mk ((by rw [hg]; exact Nat.ne_of_lt (blk_lt (g := gb110) (o := .cells #[.string (⟨#[]⟩ : ByteArray), .int .i64 0, .int .i64 0] 46 (0, 0)) (q1466_ BK110.out)) : gb110 ≠ gb126))
                   have n7_ := Aside0.mk ((by rw [hg]; exact Nat.ne_of_gt (blk_lt (g := gb110) (o := .cells #[.string (⟨#[]⟩ : ByteArray), .int .i64 0, .int .i64 0] 46 (0, 0)) (q1466_ BK110.out)) : gb126 ≠ gb110))
                   clear HO_3
                   clear BK110
                   clear HB
                   have HO_3 := n0_
                   have BK110 := n1_
                   have HB := n2_
                   have BK126 := n3_
                   have GW126 := n4_
                   have GE126 := n5_
                   have NB110_126 := n6_
                   have NB126_110 := n7_
                   clear n0_ n1_ n2_ n3_ n4_ n5_ n6_ n7_
                   clear hb hbox hg
                   refine hK.out _ _ ⟨HS0_, HS1_⟩ (fun hHeld => ?_)
                   clear hK K
                   refine nA_ 7 ?_
                   exact norm_ (by first | (simp only [putAll, Act.put, List.setIfInBounds_toArray, List.set_cons_zero, List.set_cons_succ]; done) | (simp only [putAll, Act.put, List.setIfInBounds_toArray, List.set_cons_zero, List.set_cons_succ]; rfl)) (hJ3_9 (gb126) _ ⟨hHeld, (q8524_ HO_3.out), (q1466_ BK110.out), (q1466_ BK126.out), GW126.out, GE126.out, NB110_126.out, NB126_110.out, (q8f57_ HB.out GE110.out GE126.out)⟩)
                ·skip
                 rintro ⟨gb125, gb126⟩ w37 ⟨hS_, h0_, h1_, h2_, h3_, h4_, h5_, h6_, h7_, h8_, h9_, h10_, h11_, h12_, h13_, h14_⟩
                 have n0_ : Aside0 (Kd.R Kd.string 9 w37 w.heap.size (fun _ => True) (.slice (some ad119) x3_1.length co34) x3_1) := ⟨h0_⟩
                 have n1_ : Aside0 (w37.heap[gb110]? = some (.cells #[.string (⟨#[]⟩ : ByteArray), .int .i64 0, .int .i64 0] 46 (0, 0))) := ⟨h1_⟩
                 have n2_ : Aside0 (w37.heap[gb125]? = some (.cells #[.int .i64 0, .bool false] 96 (0, 0))) := ⟨h2_⟩
                 have n3_ : Aside0 (w37.heap[gb126]? = some (.cells #[.int .i64 0, .bool false] 96 (0, 0))) := ⟨h3_⟩
                 have n4_ : Aside0 (w.heap.size ≤ gb125) := ⟨h4_⟩
                 have n5_ : Aside0 (w.heap.size ≤ gb125) := ⟨h5_⟩
                 have n6_ : Aside0 (gb110 ≠ gb125) := ⟨h6_⟩
                 have n7_ : Aside0 (gb125 ≠ gb110) := ⟨h7_⟩
                 have n8_ : Aside0 (gb126 ≠ gb125) := ⟨h8_⟩
                 have n9_ : Aside0 (gb125 ≠ gb126) := ⟨h9_⟩
                 have n10_ : Aside0 (w.heap.size ≤ gb126) := ⟨h10_⟩
                 have n11_ : Aside0 (w.heap.size ≤ gb126) := ⟨h11_⟩
                 have n12_ : Aside0 (gb110 ≠ gb126) := ⟨h12_⟩
                 have n13_ : Aside0 (gb126 ≠ gb110) := ⟨h13_⟩
                 have n14_ : Aside0 (Below w.heap.size w w37) := ⟨h14_⟩
                 clear HO_3
                 clear BK110
                 clear HB
                 clear h0_ h1_ h2_ h3_ h4_ h5_ h6_ h7_ h8_ h9_ h10_ h11_ h12_ h13_ h14_
                 have HO_3 := n0_
                 have BK110 := n1_
                 have BK125 := n2_
                 have BK126 := n3_
                 have GW125 := n4_
                 have GE125 := n5_
                 have NB110_125 := n6_
                 have NB125_110 := n7_
                 have NB126_125 := n8_
                 have NB125_126 := n9_
                 have GW126 := n10_
                 have GE126 := n11_
                 have NB110_126 := n12_
                 have NB126_110 := n13_
                 have HB := n14_
                 clear n0_ n1_ n2_ n3_ n4_ n5_ n6_ n7_ n8_ n9_ n10_ n11_ n12_ n13_ n14_
                 have hHeld : w37.cell? ⟨ad119.block, ad119.off + 1, none⟩ = some (.string (rdOf ByteArray.empty x3_1 1)) ∧ w37.cell? ⟨ad119.block, ad119.off + 2, none⟩ = some (.string (rdOf ByteArray.empty x3_1 2)) := hS_
                 refine norm_ (a' := ?_) ?_ ?_
                 rotate_left
                 ·simp only [putAll, Act.put, List.setIfInBounds_toArray, List.set_cons_zero, List.set_cons_succ]
                  rfl
                 refine one_ (i := 3) (N := some 52) (ml_ 12 895) rfl rfl (one_of HT_.out (by kernel_rfl)) (by decide) (fun K hK => ?_)
                 refine goes_ Tryd.func37 (by kernel_rfl) rfl #[.string (rdOf ByteArray.empty x3_1 1)] (by rfl) rfl rfl qM_ ?_
                 with_reducible refine (caravanref5_Number.calls kj18 (rdOf ByteArray.empty x3_1 1) t120 t121 _ A29.out).mono ?_
                 rintro e w38 ⟨rfl, hb⟩
                 have HS0_ := (hb.cell (World.block_lt_of_cell? _ _ (hHeld.1))).trans (hHeld.1)
                 have HS1_ := (hb.cell (World.block_lt_of_cell? _ _ (hHeld.2))).trans (hHeld.2)
                 refine ⟨_, rfl, ?_⟩
                 have n0_ := Aside0.mk (Kd.R_below (q8524_ HO_3.out) hb)
                 have n1_ := Aside0.mk (blk_below (g := gb110) (o := .cells #[.string (⟨#[]⟩ : ByteArray), .int .i64 0, .int .i64 0] 46 (0, 0)) (q1466_ BK110.out) hb)
                 have n2_ := Aside0.mk (blk_below (g := gb125) (o := .cells #[.int .i64 0, .bool false] 96 (0, 0)) (q1466_ BK125.out) hb)
                 have n3_ := Aside0.mk (blk_below (g := gb126) (o := .cells #[.int .i64 0, .bool false] 96 (0, 0)) (q1466_ BK126.out) hb)
                 have n4_ := Aside0.mk (below_step (q1dc4_ HB.out GE110.out GE125.out GE126.out) hb)
                 clear HO_3
                 clear BK110
                 clear BK125
                 clear BK126
                 clear HB
                 have HO_3 := n0_
                 have BK110 := n1_
                 have BK125 := n2_
                 have BK126 := n3_
                 have HB := n4_
                 clear n0_ n1_ n2_ n3_ n4_
                 (try clear hb)
                 (try clear hb2)
                 (try clear hk)
                 (try clear hi)
                 refine hK.out _ _ ⟨HS0_, HS1_⟩ (fun hHeld => ?_)
                 clear hK K
                 refine nA_ 52 ?_
                 exact norm_ (by first | (simp only [putAll, Act.put, List.setIfInBounds_toArray, List.set_cons_zero, List.set_cons_succ]; done) | (simp only [putAll, Act.put, List.setIfInBounds_toArray, List.set_cons_zero, List.set_cons_succ]; rfl)) (hJ3_8_9 (gb125, gb126) _ ⟨hHeld, (q8524_ HO_3.out), (q1466_ BK110.out), (q1466_ BK125.out), (q1466_ BK126.out), GW125.out, GE125.out, NB110_125.out, NB125_110.out, NB126_125.out, NB125_126.out, GW126.out, GE126.out, NB110_126.out, NB126_110.out, (q1dc4_ HB.out GE110.out GE125.out GE126.out)⟩)
               ·skip
                rintro gb126 w37 ⟨hS_, h0_, h1_, h2_, h3_, h4_, h5_, h6_, h7_⟩
                have n0_ : Aside0 (Kd.R Kd.string 9 w37 w.heap.size (fun _ => True) (.slice (some ad119) x3_1.length co34) x3_1) := ⟨h0_⟩
                have n1_ : Aside0 (w37.heap[gb110]? = some (.cells #[.string (⟨#[]⟩ : ByteArray), .int .i64 0, .int .i64 0] 46 (0, 0))) := ⟨h1_⟩
                have n2_ : Aside0 (w37.heap[gb126]? = some (.cells #[.int .i64 0, .bool false] 96 (0, 0))) := ⟨h2_⟩
                have n3_ : Aside0 (w.heap.size ≤ gb126) := ⟨h3_⟩
                have n4_ : Aside0 (w.heap.size ≤ gb126) := ⟨h4_⟩
                have n5_ : Aside0 (gb110 ≠ gb126) := ⟨h5_⟩
                have n6_ : Aside0 (gb126 ≠ gb110) := ⟨h6_⟩
                have n7_ : Aside0 (Below w.heap.size w w37) := ⟨h7_⟩
                clear HO_3
                clear BK110
                clear HB
                clear h0_ h1_ h2_ h3_ h4_ h5_ h6_ h7_
                have HO_3 := n0_
                have BK110 := n1_
                have BK126 := n2_
                have GW126 := n3_
                have GE126 := n4_
                have NB110_126 := n5_
                have NB126_110 := n6_
                have HB := n7_
                clear n0_ n1_ n2_ n3_ n4_ n5_ n6_ n7_
                have hHeld : w37.cell? ⟨ad119.block, ad119.off + 1, none⟩ = some (.string (rdOf ByteArray.empty x3_1 1)) ∧ w37.cell? ⟨ad119.block, ad119.off + 2, none⟩ = some (.string (rdOf ByteArray.empty x3_1 2)) := hS_
                refine norm_ (a' := ?_) ?_ ?_
                rotate_left
                ·simp only [putAll, Act.put, List.setIfInBounds_toArray, List.set_cons_zero, List.set_cons_succ]
                 rfl
                refine two_ (i := 7) (j := 8) (Ni := some 56) (Nj := some 6) (ml_ 12 767) (ml_ 12 895) rfl rfl rfl rfl (two_of HT_.out (by kernel_rfl)) (by decide) (by decide) (fun K hK => ?_) (fun K hK => ?_)
                ·skip
                 refine goes_ Tryd.func37 (by kernel_rfl) rfl #[.string (rdOf ByteArray.empty x3_1 2)] (by rfl) rfl rfl qM_ ?_
                 with_reducible refine (caravanref5_Number.calls kj18 (rdOf ByteArray.empty x3_1 2) t123 t124 _ A31.out).mono ?_
                 rintro e w38 ⟨rfl, hb⟩
                 have HS0_ := (hb.cell (World.block_lt_of_cell? _ _ (hHeld.1))).trans (hHeld.1)
                 have HS1_ := (hb.cell (World.block_lt_of_cell? _ _ (hHeld.2))).trans (hHeld.2)
                 refine ⟨_, rfl, ?_⟩
                 have n0_ := Aside0.mk (Kd.R_below (q8524_ HO_3.out) hb)
                 have n1_ := Aside0.mk (blk_below (g := gb110) (o := .cells #[.string (⟨#[]⟩ : ByteArray), .int .i64 0, .int .i64 0] 46 (0, 0)) (q1466_ BK110.out) hb)
                 have n2_ := Aside0.mk (blk_below (g := gb126) (o := .cells #[.int .i64 0, .bool false] 96 (0, 0)) (q1466_ BK126.out) hb)
                 have n3_ := Aside0.mk (below_step (q8f57_ HB.out GE110.out GE126.out) hb)
                 clear HO_3
                 clear BK110
                 clear BK126
                 clear HB
                 have HO_3 := n0_
                 have BK110 := n1_
                 have BK126 := n2_
                 have HB := n3_
                 clear n0_ n1_ n2_ n3_
                 (try clear hb)
                 (try clear hb2)
                 (try clear hk)
                 (try clear hi)
                 refine hK.out _ _ ⟨HS0_, HS1_⟩ (fun hHeld => ?_)
                 clear hK K
                 refine nA_ 56 ?_
                 exact norm_ (by first | (simp only [putAll, Act.put, List.setIfInBounds_toArray, List.set_cons_zero, List.set_cons_succ]; done) | (simp only [putAll, Act.put, List.setIfInBounds_toArray, List.set_cons_zero, List.set_cons_succ]; rfl)) (hJ3_7_9 (gb126) _ ⟨hHeld, (q8524_ HO_3.out), (q1466_ BK110.out), (q1466_ BK126.out), GW126.out, GE126.out, NB110_126.out, NB126_110.out, (q8f57_ HB.out GE110.out GE126.out)⟩)
                ·skip
                 refine box_step ?hg (N := 6) ?hd (cs := #[.int .i64 0, .bool false]) (t := 96) ?hr ?_; (case hd => rfl); (case hg => rfl); (case hr => first | (go_simp; done) | (go_simp; rfl))
                 intro gb125 hg w38 hbox hb
                 have HS0_ := (hb.cell (World.block_lt_of_cell? _ _ (hHeld.1))).trans (hHeld.1)
                 have HS1_ := (hb.cell (World.block_lt_of_cell? _ _ (hHeld.2))).trans (hHeld.2)
                 have n0_ := Aside0.mk (Kd.R_below (q8524_ HO_3.out) hb)
                 have n1_ := Aside0.mk (blk_below (g := gb110) (o := .cells #[.string (⟨#[]⟩ : ByteArray), .int .i64 0, .int .i64 0] 46 (0, 0)) (q1466_ BK110.out) hb)
                 have n2_ := Aside0.mk (blk_below (g := gb126) (o := .cells #[.int .i64 0, .bool false] 96 (0, 0)) (q1466_ BK126.out) hb)
                 have n3_ := Aside0.mk (below_step (q8f57_ HB.out GE110.out GE126.out) hb)
                 have n4_ := Aside0.mk (hbox)
                 have n5_ := Aside0.mk ((by rw [hg]; exact (below_size (q8f57_ HB.out GE110.out GE126.out)) : w.heap.size ≤ gb125))
                 have n6_ := Aside0.mk ((by rw [hg]; exact (below_size (q8f57_ HB.out GE110.out GE126.out)) : w.heap.size ≤ gb125))
                 have n7_ := Aside0.mk ((by rw [hg]; exact Nat.ne_of_lt (blk_lt (g := gb110) (o := .cells #[.string (⟨#[]⟩ : ByteArray), .int .i64 0, .int .i64 0] 46 (0, 0)) (q1466_ BK110.out)) : gb110 ≠ gb125))
                 have n8_ := Aside0.mk ((by rw [hg]; exact Nat.ne_of_gt (blk_lt (g := gb110) (o := .cells #[.string (⟨#[]⟩ : ByteArray), .int .i64 0, .int .i64 0] 46 (0, 0)) (q1466_ BK110.out)) : gb125 ≠ gb110))
                 have n9_ := Aside0.mk ((by rw [hg]; exact Nat.ne_of_lt (blk_lt (g := gb126) (o := .cells #[.int .i64 0, .bool false] 96 (0, 0)) (q1466_ BK126.out)) : gb126 ≠ gb125))
                 have n10_ := Aside0.mk ((by rw [hg]; exact Nat.ne_of_gt (blk_lt (g := gb126) (o := .cells #[.int .i64 0, .bool false] 96 (0, 0)) (q1466_ BK126.out)) : gb125 ≠ gb126))
                 clear HO_3
                 clear BK110
                 clear BK126
                 clear HB
                 have HO_3 := n0_
                 have BK110 := n1_
                 have BK126 := n2_
                 have HB := n3_
                 have BK125 := n4_
                 have GW125 := n5_
                 have GE125 := n6_
                 have NB110_125 := n7_
                 have NB125_110 := n8_
                 have NB126_125 := n9_
                 have NB125_126 := n10_
                 clear n0_ n1_ n2_ n3_ n4_ n5_ n6_ n7_ n8_ n9_ n10_
                 clear hb hbox hg
                 refine hK.out _ _ ⟨HS0_, HS1_⟩ (fun hHeld => ?_)
                 clear hK K
                 refine nA_ 6 ?_
                 exact norm_ (by first | (simp only [putAll, Act.put, List.setIfInBounds_toArray, List.set_cons_zero, List.set_cons_succ]; done) | (simp only [putAll, Act.put, List.setIfInBounds_toArray, List.set_cons_zero, List.set_cons_succ]; rfl)) (hJ3_8_9 (gb125, gb126) _ ⟨hHeld, (q8524_ HO_3.out), (q1466_ BK110.out), (q1466_ BK125.out), (q1466_ BK126.out), GW125.out, GE125.out, NB110_125.out, NB125_110.out, NB126_125.out, NB125_126.out, GW126.out, GE126.out, NB110_126.out, NB126_110.out, (q1dc4_ HB.out GE110.out GE126.out GE125.out)⟩)
              ·skip
               rintro gb125 w37 ⟨hS_, h0_, h1_, h2_, h3_, h4_, h5_, h6_, h7_⟩
               have n0_ : Aside0 (Kd.R Kd.string 9 w37 w.heap.size (fun _ => True) (.slice (some ad119) x3_1.length co34) x3_1) := ⟨h0_⟩
               have n1_ : Aside0 (w37.heap[gb110]? = some (.cells #[.string (⟨#[]⟩ : ByteArray), .int .i64 0, .int .i64 0] 46 (0, 0))) := ⟨h1_⟩
               have n2_ : Aside0 (w37.heap[gb125]? = some (.cells #[.int .i64 0, .bool false] 96 (0, 0))) := ⟨h2_⟩
               have n3_ : Aside0 (w.heap.size ≤ gb125) := ⟨h3_⟩
               have n4_ : Aside0 (w.heap.size ≤ gb125) := ⟨h4_⟩
               have n5_ : Aside0 (gb110 ≠ gb125) := ⟨h5_⟩
               have n6_ : Aside0 (gb125 ≠ gb110) := ⟨h6_⟩
               have n7_ : Aside0 (Below w.heap.size w w37) := ⟨h7_⟩
               clear HO_3
               clear BK110
               clear HB
               clear h0_ h1_ h2_ h3_ h4_ h5_ h6_ h7_
               have HO_3 := n0_
               have BK110 := n1_
               have BK125 := n2_
               have GW125 := n3_
               have GE125 := n4_
               have NB110_125 := n5_
               have NB125_110 := n6_
               have HB := n7_
               clear n0_ n1_ n2_ n3_ n4_ n5_ n6_ n7_
               have hHeld : w37.cell? ⟨ad119.block, ad119.off + 1, none⟩ = some (.string (rdOf ByteArray.empty x3_1 1)) ∧ w37.cell? ⟨ad119.block, ad119.off + 2, none⟩ = some (.string (rdOf ByteArray.empty x3_1 2)) := hS_
               refine norm_ (a' := ?_) ?_ ?_
               rotate_left
               ·simp only [putAll, Act.put, List.setIfInBounds_toArray, List.set_cons_zero, List.set_cons_succ]
                rfl
               refine two_ (i := 7) (j := 9) (Ni := some 56) (Nj := some 7) (ml_ 12 511) (ml_ 12 895) rfl rfl rfl rfl (two_of HT_.out (by kernel_rfl)) (by decide) (by decide) (fun K hK => ?_) (fun K hK => ?_)
               ·skip
                refine goes_ Tryd.func37 (by kernel_rfl) rfl #[.string (rdOf ByteArray.empty x3_1 2)] (by rfl) rfl rfl qM_ ?_
                with_reducible refine (caravanref5_Number.calls kj18 (rdOf ByteArray.empty x3_1 2) t123 t124 _ A31.out).mono ?_
                rintro e w38 ⟨rfl, hb⟩
                have HS0_ := (hb.cell (World.block_lt_of_cell? _ _ (hHeld.1))).trans (hHeld.1)
                have HS1_ := (hb.cell (World.block_lt_of_cell? _ _ (hHeld.2))).trans (hHeld.2)
                refine ⟨_, rfl, ?_⟩
                have n0_ := Aside0.mk (Kd.R_below (q8524_ HO_3.out) hb)
                have n1_ := Aside0.mk (blk_below (g := gb110) (o := .cells #[.string (⟨#[]⟩ : ByteArray), .int .i64 0, .int .i64 0] 46 (0, 0)) (q1466_ BK110.out) hb)
                have n2_ := Aside0.mk (blk_below (g := gb125) (o := .cells #[.int .i64 0, .bool false] 96 (0, 0)) (q1466_ BK125.out) hb)
                have n3_ := Aside0.mk (below_step (q8f57_ HB.out GE110.out GE125.out) hb)
                clear HO_3
                clear BK110
                clear BK125
                clear HB
                have HO_3 := n0_
                have BK110 := n1_
                have BK125 := n2_
                have HB := n3_
                clear n0_ n1_ n2_ n3_
                (try clear hb)
                (try clear hb2)
                (try clear hk)
                (try clear hi)
                refine hK.out _ _ ⟨HS0_, HS1_⟩ (fun hHeld => ?_)
                clear hK K
                refine nA_ 56 ?_
                exact norm_ (by first | (simp only [putAll, Act.put, List.setIfInBounds_toArray, List.set_cons_zero, List.set_cons_succ]; done) | (simp only [putAll, Act.put, List.setIfInBounds_toArray, List.set_cons_zero, List.set_cons_succ]; rfl)) (hJ3_7_8 (gb125) _ ⟨hHeld, (q8524_ HO_3.out), (q1466_ BK110.out), (q1466_ BK125.out), GW125.out, GE125.out, NB110_125.out, NB125_110.out, (q8f57_ HB.out GE110.out GE125.out)⟩)
               ·skip
                refine box_step ?hg (N := 7) ?hd (cs := #[.int .i64 0, .bool false]) (t := 96) ?hr ?_; (case hd => rfl); (case hg => rfl); (case hr => first | (go_simp; done) | (go_simp; rfl))
                intro gb126 hg w38 hbox hb
                have HS0_ := (hb.cell (World.block_lt_of_cell? _ _ (hHeld.1))).trans (hHeld.1)
                have HS1_ := (hb.cell (World.block_lt_of_cell? _ _ (hHeld.2))).trans (hHeld.2)
                have n0_ := Aside0.mk (Kd.R_below (q8524_ HO_3.out) hb)
                have n1_ := Aside0.mk (blk_below (g := gb110) (o := .cells #[.string (⟨#[]⟩ : ByteArray), .int .i64 0, .int .i64 0] 46 (0, 0)) (q1466_ BK110.out) hb)
                have n2_ := Aside0.mk (blk_below (g := gb125) (o := .cells #[.int .i64 0, .bool false] 96 (0, 0)) (q1466_ BK125.out) hb)
                have n3_ := Aside0.mk (below_step (q8f57_ HB.out GE110.out GE125.out) hb)
                have n4_ := Aside0.mk (hbox)
                have n5_ := Aside0.mk ((by rw [hg]; exact (below_size (q8f57_ HB.out GE110.out GE125.out)) : w.heap.size ≤ gb126))
                have n6_ := Aside0.mk ((by rw [hg]; exact (below_size (q8f57_ HB.out GE110.out GE125.out)) : w.heap.size ≤ gb126))
                have n7_ := Aside0.mk ((by rw [hg]; exact Nat.ne_of_lt (blk_lt (g := gb110) (o := .cells #[.string (⟨#[]⟩ : ByteArray), .int .i64 0, .int .i64 0] 46 (0, 0)) (q1466_ BK110.out)) : gb110 ≠ gb126))
                have n8_ := Aside0.mk ((by rw [hg]; exact Nat.ne_of_gt (blk_lt (g := gb110) (o := .cells #[.string (⟨#[]⟩ : ByteArray), .int .i64 0, .int .i64 0] 46 (0, 0)) (q1466_ BK110.out)) : gb126 ≠ gb110))
                have n9_ := Aside0.mk ((by rw [hg]; exact Nat.ne_of_lt (blk_lt (g := gb125) (o := .cells #[.int .i64 0, .bool false] 96 (0, 0)) (q1466_ BK125.out)) : gb125 ≠ gb126))
                have n10_ := Aside0.mk ((by rw [hg]; exact Nat.ne_of_gt (blk_lt (g := gb125) (o := .cells #[.int .i64 0, .bool false] 96 (0, 0)) (q1466_ BK125.out)) : gb126 ≠ gb125))
                clear HO_3
                clear BK110
                clear BK125
                clear HB
                have HO_3 := n0_
                have BK110 := n1_
                have BK125 := n2_
                have HB := n3_
                have BK126 := n4_
                have GW126 := n5_
                have GE126 := n6_
                have NB110_126 := n7_
                have NB126_110 := n8_
                have NB125_126 := n9_
                have NB126_125 := n10_
                clear n0_ n1_ n2_ n3_ n4_ n5_ n6_ n7_ n8_ n9_ n10_
                clear hb hbox hg
                refine hK.out _ _ ⟨HS0_, HS1_⟩ (fun hHeld => ?_)
                clear hK K
                refine nA_ 7 ?_
                exact norm_ (by first | (simp only [putAll, Act.put, List.setIfInBounds_toArray, List.set_cons_zero, List.set_cons_succ]; done) | (simp only [putAll, Act.put, List.setIfInBounds_toArray, List.set_cons_zero, List.set_cons_succ]; rfl)) (hJ3_8_9 (gb125, gb126) _ ⟨hHeld, (q8524_ HO_3.out), (q1466_ BK110.out), (q1466_ BK125.out), (q1466_ BK126.out), GW125.out, GE125.out, NB110_125.out, NB125_110.out, NB126_125.out, NB125_126.out, GW126.out, GE126.out, NB110_126.out, NB126_110.out, (q1dc4_ HB.out GE110.out GE125.out GE126.out)⟩)
             ·skip
              rintro _ w37 ⟨hS_, h0_, h1_, h2_⟩
              have n0_ : Aside0 (Kd.R Kd.string 9 w37 w.heap.size (fun _ => True) (.slice (some ad119) x3_1.length co34) x3_1) := ⟨h0_⟩
              have n1_ : Aside0 (w37.heap[gb110]? = some (.cells #[.string (⟨#[]⟩ : ByteArray), .int .i64 0, .int .i64 0] 46 (0, 0))) := ⟨h1_⟩
              have n2_ : Aside0 (Below w.heap.size w w37) := ⟨h2_⟩
              clear HO_3
              clear BK110
              clear HB
              clear h0_ h1_ h2_
              have HO_3 := n0_
              have BK110 := n1_
              have HB := n2_
              clear n0_ n1_ n2_
              have hHeld : w37.cell? ⟨ad119.block, ad119.off + 1, none⟩ = some (.string (rdOf ByteArray.empty x3_1 1)) ∧ w37.cell? ⟨ad119.block, ad119.off + 2, none⟩ = some (.string (rdOf ByteArray.empty x3_1 2)) := hS_
              refine norm_ (a' := ?_) ?_ ?_
              rotate_left
              ·simp only [putAll, Act.put, List.setIfInBounds_toArray, List.set_cons_zero, List.set_cons_succ]
               rfl
              refine two_ (i := 8) (j := 9) (Ni := some 6) (Nj := some 7) (ml_ 12 511) (ml_ 12 767) rfl rfl rfl rfl (two_of HT_.out (by kernel_rfl)) (by decide) (by decide) (fun K hK => ?_) (fun K hK => ?_)
              ·skip
               refine box_step ?hg (N := 6) ?hd (cs := #[.int .i64 0, .bool false]) (t := 96) ?hr ?_; (case hd => rfl); (case hg => rfl); (case hr => first | (go_simp; done) | (go_simp; rfl))
               intro gb125 hg w38 hbox hb
               have HS0_ := (hb.cell (World.block_lt_of_cell? _ _ (hHeld.1))).trans (hHeld.1)
               have HS1_ := (hb.cell (World.block_lt_of_cell? _ _ (hHeld.2))).trans (hHeld.2)
               have n0_ := Aside0.mk (Kd.R_below (q8524_ HO_3.out) hb)
               have n1_ := Aside0.mk (blk_below (g := gb110) (o := .cells #[.string (⟨#[]⟩ : ByteArray), .int .i64 0, .int .i64 0] 46 (0, 0)) (q1466_ BK110.out) hb)
               have n2_ := Aside0.mk (below_step (qed14_ HB.out GE110.out) hb)
               have n3_ := Aside0.mk (hbox)
               have n4_ := Aside0.mk ((by rw [hg]; exact (below_size (qed14_ HB.out GE110.out)) : w.heap.size ≤ gb125))
               have n5_ := Aside0.mk ((by rw [hg]; exact (below_size (qed14_ HB.out GE110.out)) : w.heap.size ≤ gb125))
               have n6_ := Aside0.mk ((by rw [hg]; exact Nat.ne_of_lt (blk_lt (g := gb110) (o := .cells #[.string (⟨#[]⟩ : ByteArray), .int .i64 0, .int .i64 0] 46 (0, 0)) (q1466_ BK110.out)) : gb110 ≠ gb125))
               have n7_ := Aside0.mk ((by rw [hg]; exact Nat.ne_of_gt (blk_lt (g := gb110) (o := .cells #[.string (⟨#[]⟩ : ByteArray), .int .i64 0, .int .i64 0] 46 (0, 0)) (q1466_ BK110.out)) : gb125 ≠ gb110))
               clear HO_3
               clear BK110
               clear HB
               have HO_3 := n0_
               have BK110 := n1_
               have HB := n2_
               have BK125 := n3_
               have GW125 := n4_
               have GE125 := n5_
               have NB110_125 := n6_
               have NB125_110 := n7_
               clear n0_ n1_ n2_ n3_ n4_ n5_ n6_ n7_
               clear hb hbox hg
               refine hK.out _ _ ⟨HS0_, HS1_⟩ (fun hHeld => ?_)
               clear hK K
               refine nA_ 6 ?_
               exact norm_ (by first | (simp only [putAll, Act.put, List.setIfInBounds_toArray, List.set_cons_zero, List.set_cons_succ]; done) | (simp only [putAll, Act.put, List.setIfInBounds_toArray, List.set_cons_zero, List.set_cons_succ]; rfl)) (hJ3_7_8 (gb125) _ ⟨hHeld, (q8524_ HO_3.out), (q1466_ BK110.out), (q1466_ BK125.out), GW125.out, GE125.out, NB110_125.out, NB125_110.out, (q8f57_ HB.out GE110.out GE125.out)⟩)
              ·skip
               refine box_step ?hg (N := 7) ?hd (cs := #[.int .i64 0, .bool false]) (t := 96) ?hr ?_; (case hd => rfl); (case hg => rfl); (case hr => first | (go_simp; done) | (go_simp; rfl))
               intro gb126 hg w38 hbox hb
               have HS0_ := (hb.cell (World.block_lt_of_cell? _ _ (hHeld.1))).trans (hHeld.1)
               have HS1_ := (hb.cell (World.block_lt_of_cell? _ _ (hHeld.2))).trans (hHeld.2)
               have n0_ := Aside0.mk (Kd.R_below (q8524_ HO_3.out) hb)
               have n1_ := Aside0.mk (blk_below (g := gb110) (o := .cells #[.string (⟨#[]⟩ : ByteArray), .int .i64 0, .int .i64 0] 46 (0, 0)) (q1466_ BK110.out) hb)
               have n2_ := Aside0.mk (below_step (qed14_ HB.out GE110.out) hb)
               have n3_ := Aside0.mk (hbox)
               have n4_ := Aside0.mk ((by rw [hg]; exact (below_size (qed14_ HB.out GE110.out)) : w.heap.size ≤ gb126))
               have n5_ := Aside0.mk ((by rw [hg]; exact (below_size (qed14_ HB.out GE110.out)) : w.heap.size ≤ gb126))
               have n6_ := Aside0.mk ((by rw [hg]; exact Nat.ne_of_lt (blk_lt (g := gb110) (o := .cells #[.string (⟨#[]⟩ : ByteArray), .int .i64 0, .int .i64 0] 46 (0, 0)) (q1466_ BK110.out)) : gb110 ≠ gb126))
               have n7_ := Aside0.mk ((by rw [hg]; exact Nat.ne_of_gt (blk_lt (g := gb110) (o := .cells #[.string (⟨#[]⟩ : ByteArray), .int .i64 0, .int .i64 0] 46 (0, 0)) (q1466_ BK110.out)) : gb126 ≠ gb110))
               clear HO_3
               clear BK110
               clear HB
               have HO_3 := n0_
               have BK110 := n1_
               have HB := n2_
               have BK126 := n3_
               have GW126 := n4_
               have GE126 := n5_
               have NB110_126 := n6_
               have NB126_110 := n7_
               clear n0_ n1_ n2_ n3_ n4_ n5_ n6_ n7_
               clear hb hbox hg
               refine hK.out _ _ ⟨HS0_, HS1_⟩ (fun hHeld => ?_)
               clear hK K
               refine nA_ 7 ?_
               exact norm_ (by first | (simp only [putAll, Act.put, List.setIfInBounds_toArray, List.set_cons_zero, List.set_cons_succ]; done) | (simp only [putAll, Act.put, List.setIfInBounds_toArray, List.set_cons_zero, List.set_cons_succ]; rfl)) (hJ3_7_9 (gb126) _ ⟨hHeld, (q8524_ HO_3.out), (q1466_ BK110.out), (q1466_ BK126.out), GW126.out, GE126.out, NB110_126.out, NB126_110.out, (q8f57_ HB.out GE110.out GE126.out)⟩)
            ·skip
             rintro ⟨gb125, gb126⟩ w38 ⟨hS_, h0_, h1_, h2_, h3_, h4_, h5_, h6_, h7_, h8_, h9_, h10_, h11_, h12_, h13_, h14_⟩
             have n0_ : Aside0 (Kd.R Kd.string 9 w38 w.heap.size (fun _ => True) (.slice (some ad119) x3_1.length co34) x3_1) := ⟨h0_⟩
             have n1_ : Aside0 (w38.heap[gb110]? = some (.cells #[.string (⟨#[]⟩ : ByteArray), .int .i64 0, .int .i64 0] 46 (0, 0))) := ⟨h1_⟩
             have n2_ : Aside0 (w38.heap[gb125]? = some (.cells #[.int .i64 0, .bool false] 96 (0, 0))) := ⟨h2_⟩
             have n3_ : Aside0 (w38.heap[gb126]? = some (.cells #[.int .i64 0, .bool false] 96 (0, 0))) := ⟨h3_⟩
             have n4_ : Aside0 (w.heap.size ≤ gb125) := ⟨h4_⟩
             have n5_ : Aside0 (w.heap.size ≤ gb125) := ⟨h5_⟩
             have n6_ : Aside0 (gb110 ≠ gb125) := ⟨h6_⟩
             have n7_ : Aside0 (gb125 ≠ gb110) := ⟨h7_⟩
             have n8_ : Aside0 (gb126 ≠ gb125) := ⟨h8_⟩
             have n9_ : Aside0 (gb125 ≠ gb126) := ⟨h9_⟩
             have n10_ : Aside0 (w.heap.size ≤ gb126) := ⟨h10_⟩
             have n11_ : Aside0 (w.heap.size ≤ gb126) := ⟨h11_⟩
             have n12_ : Aside0 (gb110 ≠ gb126) := ⟨h12_⟩
             have n13_ : Aside0 (gb126 ≠ gb110) := ⟨h13_⟩
             have n14_ : Aside0 (Below w.heap.size w w38) := ⟨h14_⟩
             clear HO_3
             clear BK110
             clear HB
             clear h0_ h1_ h2_ h3_ h4_ h5_ h6_ h7_ h8_ h9_ h10_ h11_ h12_ h13_ h14_
             have HO_3 := n0_
             have BK110 := n1_
             have BK125 := n2_
             have BK126 := n3_
             have GW125 := n4_
             have GE125 := n5_
             have NB110_125 := n6_
             have NB125_110 := n7_
             have NB126_125 := n8_
             have NB125_126 := n9_
             have GW126 := n10_
             have GE126 := n11_
             have NB110_126 := n12_
             have NB126_110 := n13_
             have HB := n14_
             clear n0_ n1_ n2_ n3_ n4_ n5_ n6_ n7_ n8_ n9_ n10_ n11_ n12_ n13_ n14_
             have hHeld : w38.cell? ⟨ad119.block, ad119.off + 1, none⟩ = some (.string (rdOf ByteArray.empty x3_1 1)) ∧ w38.cell? ⟨ad119.block, ad119.off + 2, none⟩ = some (.string (rdOf ByteArray.empty x3_1 2)) := hS_
             refine norm_ (a' := ?_) ?_ ?_
             rotate_left
             ·simp only [putAll, Act.put, List.setIfInBounds_toArray, List.set_cons_zero, List.set_cons_succ]
              rfl
             refine one_ (i := 7) (N := some 56) (ml_ 12 1023) rfl rfl (one_of HT_.out (by kernel_rfl)) (by decide) (fun K hK => ?_)
             refine goes_ Tryd.func37 (by kernel_rfl) rfl #[.string (rdOf ByteArray.empty x3_1 2)] (by rfl) rfl rfl qM_ ?_
             with_reducible refine (caravanref5_Number.calls kj18 (rdOf ByteArray.empty x3_1 2) t123 t124 _ A31.out).mono ?_
             rintro e w39 ⟨rfl, hb⟩
             have HS0_ := (hb.cell (World.block_lt_of_cell? _ _ (hHeld.1))).trans (hHeld.1)
             have HS1_ := (hb.cell (World.block_lt_of_cell? _ _ (hHeld.2))).trans (hHeld.2)
             refine ⟨_, rfl, ?_⟩
             have n0_ := Aside0.mk (Kd.R_below (q8524_ HO_3.out) hb)
             have n1_ := Aside0.mk (blk_below (g := gb110) (o := .cells #[.string (⟨#[]⟩ : ByteArray), .int .i64 0, .int .i64 0] 46 (0, 0)) (q1466_ BK110.out) hb)
             have n2_ := Aside0.mk (blk_below (g := gb125) (o := .cells #[.int .i64 0, .bool false] 96 (0, 0)) (q1466_ BK125.out) hb)
             have n3_ := Aside0.mk (blk_below (g := gb126) (o := .cells #[.int .i64 0, .bool false] 96 (0, 0)) (q1466_ BK126.out) hb)
             have n4_ := Aside0.mk (below_step (q1dc4_ HB.out GE110.out GE125.out GE126.out) hb)
             clear HO_3
             clear BK110
             clear BK125
             clear BK126
             clear HB
             have HO_3 := n0_
             have BK110 := n1_
             have BK125 := n2_
             have BK126 := n3_
             have HB := n4_
             clear n0_ n1_ n2_ n3_ n4_
             (try clear hb)
             (try clear hb2)
             (try clear hk)
             (try clear hi)
             refine hK.out _ _ ⟨HS0_, HS1_⟩ (fun hHeld => ?_)
             clear hK K
             refine nA_ 56 ?_
             exact norm_ (by first | (simp only [putAll, Act.put, List.setIfInBounds_toArray, List.set_cons_zero, List.set_cons_succ]; done) | (simp only [putAll, Act.put, List.setIfInBounds_toArray, List.set_cons_zero, List.set_cons_succ]; rfl)) (hJ3_7_8_9 (gb125, gb126) _ ⟨hHeld, (q8524_ HO_3.out), (q1466_ BK110.out), (q1466_ BK125.out), (q1466_ BK126.out), GW125.out, GE125.out, NB110_125.out, NB125_110.out, NB126_125.out, NB125_126.out, GW126.out, GE126.out, NB110_126.out, NB126_110.out, (q1dc4_ HB.out GE110.out GE125.out GE126.out)⟩)
           ·skip
            rintro gb126 w38 ⟨hS_, h0_, h1_, h2_, h3_, h4_, h5_, h6_, h7_⟩
            have n0_ : Aside0 (Kd.R Kd.string 9 w38 w.heap.size (fun _ => True) (.slice (some ad119) x3_1.length co34) x3_1) := ⟨h0_⟩
            have n1_ : Aside0 (w38.heap[gb110]? = some (.cells #[.string (⟨#[]⟩ : ByteArray), .int .i64 0, .int .i64 0] 46 (0, 0))) := ⟨h1_⟩
            have n2_ : Aside0 (w38.heap[gb126]? = some (.cells #[.int .i64 0, .bool false] 96 (0, 0))) := ⟨h2_⟩
            have n3_ : Aside0 (w.heap.size ≤ gb126) := ⟨h3_⟩
            have n4_ : Aside0 (w.heap.size ≤ gb126) := ⟨h4_⟩
            have n5_ : Aside0 (gb110 ≠ gb126) := ⟨h5_⟩
            have n6_ : Aside0 (gb126 ≠ gb110) := ⟨h6_⟩
            have n7_ : Aside0 (Below w.heap.size w w38) := ⟨h7_⟩
            clear HO_3
            clear BK110
            clear HB
            clear h0_ h1_ h2_ h3_ h4_ h5_ h6_ h7_
            have HO_3 := n0_
            have BK110 := n1_
            have BK126 := n2_
            have GW126 := n3_
            have GE126 := n4_
            have NB110_126 := n5_
            have NB126_110 := n6_
            have HB := n7_
            clear n0_ n1_ n2_ n3_ n4_ n5_ n6_ n7_
            have hHeld : w38.cell? ⟨ad119.block, ad119.off + 1, none⟩ = some (.string (rdOf ByteArray.empty x3_1 1)) ∧ w38.cell? ⟨ad119.block, ad119.off + 2, none⟩ = some (.string (rdOf ByteArray.empty x3_1 2)) := hS_
            refine norm_ (a' := ?_) ?_ ?_
            rotate_left
            ·simp only [putAll, Act.put, List.setIfInBounds_toArray, List.set_cons_zero, List.set_cons_succ]
             rfl
            refine one_ (i := 8) (N := some 6) (ml_ 12 1023) rfl rfl (one_of HT_.out (by kernel_rfl)) (by decide) (fun K hK => ?_)
            refine box_step ?hg (N := 6) ?hd (cs := #[.int .i64 0, .bool false]) (t := 96) ?hr ?_; (case hd => rfl); (case hg => rfl); (case hr => first | (go_simp; done) | (go_simp; rfl))
            intro gb125 hg w39 hbox hb
            have HS0_ := (hb.cell (World.block_lt_of_cell? _ _ (hHeld.1))).trans (hHeld.1)
            have HS1_ := (hb.cell (World.block_lt_of_cell? _ _ (hHeld.2))).trans (hHeld.2)
            have n0_ := Aside0.mk (Kd.R_below (q8524_ HO_3.out) hb)
            have n1_ := Aside0.mk (blk_below (g := gb110) (o := .cells #[.string (⟨#[]⟩ : ByteArray), .int .i64 0, .int .i64 0] 46 (0, 0)) (q1466_ BK110.out) hb)
            have n2_ := Aside0.mk (blk_below (g := gb126) (o := .cells #[.int .i64 0, .bool false] 96 (0, 0)) (q1466_ BK126.out) hb)
            have n3_ := Aside0.mk (below_step (q8f57_ HB.out GE110.out GE126.out) hb)
            have n4_ := Aside0.mk (hbox)
            have n5_ := Aside0.mk ((by rw [hg]; exact (below_size (q8f57_ HB.out GE110.out GE126.out)) : w.heap.size ≤ gb125))
            have n6_ := Aside0.mk ((by rw [hg]; exact (below_size (q8f57_ HB.out GE110.out GE126.out)) : w.heap.size ≤ gb125))
            have n7_ := Aside0.mk ((by rw [hg]; exact Nat.ne_of_lt (blk_lt (g := gb110) (o := .cells #[.string (⟨#[]⟩ : ByteArray), .int .i64 0, .int .i64 0] 46 (0, 0)) (q1466_ BK110.out)) : gb110 ≠ gb125))
            have n8_ := Aside0.mk ((by rw [hg]; exact Nat.ne_of_gt (blk_lt (g := gb110) (o := .cells #[.string (⟨#[]⟩ : ByteArray), .int .i64 0, .int .i64 0] 46 (0, 0)) (q1466_ BK110.out)) : gb125 ≠ gb110))
            have n9_ := Aside0.mk ((by rw [hg]; exact Nat.ne_of_lt (blk_lt (g := gb126) (o := .cells #[.int .i64 0, .bool false] 96 (0, 0)) (q1466_ BK126.out)) : gb126 ≠ gb125))
            have n10_ := Aside0.mk ((by rw [hg]; exact Nat.ne_of_gt (blk_lt (g := gb126) (o := .cells #[.int .i64 0, .bool false] 96 (0, 0)) (q1466_ BK126.out)) : gb125 ≠ gb126))
            clear HO_3
            clear BK110
            clear BK126
            clear HB
            have HO_3 := n0_
            have BK110 := n1_
            have BK126 := n2_
            have HB := n3_
            have BK125 := n4_
            have GW125 := n5_
            have GE125 := n6_
            have NB110_125 := n7_
            have NB125_110 := n8_
            have NB126_125 := n9_
            have NB125_126 := n10_
            clear n0_ n1_ n2_ n3_ n4_ n5_ n6_ n7_ n8_ n9_ n10_
            clear hb hbox hg
            refine hK.out _ _ ⟨HS0_, HS1_⟩ (fun hHeld => ?_)
            clear hK K
            refine nA_ 6 ?_
            exact norm_ (by first | (simp only [putAll, Act.put, List.setIfInBounds_toArray, List.set_cons_zero, List.set_cons_succ]; done) | (simp only [putAll, Act.put, List.setIfInBounds_toArray, List.set_cons_zero, List.set_cons_succ]; rfl)) (hJ3_7_8_9 (gb125, gb126) _ ⟨hHeld, (q8524_ HO_3.out), (q1466_ BK110.out), (q1466_ BK125.out), (q1466_ BK126.out), GW125.out, GE125.out, NB110_125.out, NB125_110.out, NB126_125.out, NB125_126.out, GW126.out, GE126.out, NB110_126.out, NB126_110.out, (q1dc4_ HB.out GE110.out GE126.out GE125.out)⟩)
          ·skip
           rintro gb125 w38 ⟨hS_, h0_, h1_, h2_, h3_, h4_, h5_, h6_, h7_⟩
           have n0_ : Aside0 (Kd.R Kd.string 9 w38 w.heap.size (fun _ => True) (.slice (some ad119) x3_1.length co34) x3_1) := ⟨h0_⟩
           have n1_ : Aside0 (w38.heap[gb110]? = some (.cells #[.string (⟨#[]⟩ : ByteArray), .int .i64 0, .int .i64 0] 46 (0, 0))) := ⟨h1_⟩
           have n2_ : Aside0 (w38.heap[gb125]? = some (.cells #[.int .i64 0, .bool false] 96 (0, 0))) := ⟨h2_⟩
           have n3_ : Aside0 (w.heap.size ≤ gb125) := ⟨h3_⟩
           have n4_ : Aside0 (w.heap.size ≤ gb125) := ⟨h4_⟩
           have n5_ : Aside0 (gb110 ≠ gb125) := ⟨h5_⟩
           have n6_ : Aside0 (gb125 ≠ gb110) := ⟨h6_⟩
           have n7_ : Aside0 (Below w.heap.size w w38) := ⟨h7_⟩
           clear HO_3
           clear BK110
           clear HB
           clear h0_ h1_ h2_ h3_ h4_ h5_ h6_ h7_
           have HO_3 := n0_
           have BK110 := n1_
           have BK125 := n2_
           have GW125 := n3_
           have GE125 := n4_
           have NB110_125 := n5_
           have NB125_110 := n6_
           have HB := n7_
           clear n0_ n1_ n2_ n3_ n4_ n5_ n6_ n7_
           have hHeld : w38.cell? ⟨ad119.block, ad119.off + 1, none⟩ = some (.string (rdOf ByteArray.empty x3_1 1)) ∧ w38.cell? ⟨ad119.block, ad119.off + 2, none⟩ = some (.string (rdOf ByteArray.empty x3_1 2)) := hS_
           refine norm_ (a' := ?_) ?_ ?_
           rotate_left
           ·simp only [putAll, Act.put, List.setIfInBounds_toArray, List.set_cons_zero, List.set_cons_succ]
            rfl
           refine one_ (i := 9) (N := some 7) (ml_ 12 1023) rfl rfl (one_of HT_.out (by kernel_rfl)) (by decide) (fun K hK => ?_)
           refine box_step ?hg (N := 7) ?hd (cs := #[.int .i64 0, .bool false]) (t := 96) ?hr ?_; (case hd => rfl); (case hg => rfl); (case hr => first | (go_simp; done) | (go_simp; rfl))
           intro gb126 hg w39 hbox hb
           have HS0_ := (hb.cell (World.block_lt_of_cell? _ _ (hHeld.1))).trans (hHeld.1)
           have HS1_ := (hb.cell (World.block_lt_of_cell? _ _ (hHeld.2))).trans (hHeld.2)
           have n0_ := Aside0.mk (Kd.R_below (q8524_ HO_3.out) hb)
           have n1_ := Aside0.mk (blk_below (g := gb110) (o := .cells #[.string (⟨#[]⟩ : ByteArray), .int .i64 0, .int .i64 0] 46 (0, 0)) (q1466_ BK110.out) hb)
           have n2_ := Aside0.mk (blk_below (g := gb125) (o := .cells #[.int .i64 0, .bool false] 96 (0, 0)) (q1466_ BK125.out) hb)
           have n3_ := Aside0.mk (below_step (q8f57_ HB.out GE110.out GE125.out) hb)
           have n4_ := Aside0.mk (hbox)
           have n5_ := Aside0.mk ((by rw [hg]; exact (below_size (q8f57_ HB.out GE110.out GE125.out)) : w.heap.size ≤ gb126))
           have n6_ := Aside0.mk ((by rw [hg]; exact (below_size (q8f57_ HB.out GE110.out GE125.out)) : w.heap.size ≤ gb126))
           have n7_ := Aside0.mk ((by rw [hg]; exact Nat.ne_of_lt (blk_lt (g := gb110) (o := .cells #[.string (⟨#[]⟩ : ByteArray), .int .i64 0, .int .i64 0] 46 (0, 0)) (q1466_ BK110.out)) : gb110 ≠ gb126))
           have n8_ := Aside0.mk ((by rw [hg]; exact Nat.ne_of_gt (blk_lt (g := gb110) (o := .cells #[.string (⟨#[]⟩ : ByteArray), .int .i64 0, .int .i64 0] 46 (0, 0)) (q1466_ BK110.out)) : gb126 ≠ gb110))
           have n9_ := Aside0.mk ((by rw [hg]; exact Nat.ne_of_lt (blk_lt (g := gb125) (o := .cells #[.int .i64 0, .bool false] 96 (0, 0)) (q1466_ BK125.out)) : gb125 ≠ gb126))
           have n10_ := Aside0.mk ((by rw [hg]; exact Nat.ne_of_gt (blk_lt (g := gb125) (o := .cells #[.int .i64 0, .bool false] 96 (0, 0)) (q1466_ BK125.out)) : gb126 ≠ gb125))
           clear HO_3
           clear BK110
           clear BK125
           clear HB
           have HO_3 := n0_
           have BK110 := n1_
           have BK125 := n2_
           have HB := n3_
           have BK126 := n4_
           have GW126 := n5_
           have GE126 := n6_
           have NB110_126 := n7_
           have NB126_110 := n8_
           have NB125_126 := n9_
           have NB126_125 := n10_
           clear n0_ n1_ n2_ n3_ n4_ n5_ n6_ n7_ n8_ n9_ n10_
           clear hb hbox hg
           refine hK.out _ _ ⟨HS0_, HS1_⟩ (fun hHeld => ?_)
           clear hK K
           refine nA_ 7 ?_
           exact norm_ (by first | (simp only [putAll, Act.put, List.setIfInBounds_toArray, List.set_cons_zero, List.set_cons_succ]; done) | (simp only [putAll, Act.put, List.setIfInBounds_toArray, List.set_cons_zero, List.set_cons_succ]; rfl)) (hJ3_7_8_9 (gb125, gb126) _ ⟨hHeld, (q8524_ HO_3.out), (q1466_ BK110.out), (q1466_ BK125.out), (q1466_ BK126.out), GW125.out, GE125.out, NB110_125.out, NB125_110.out, NB126_125.out, NB125_126.out, GW126.out, GE126.out, NB110_126.out, NB126_110.out, (q1dc4_ HB.out GE110.out GE125.out GE126.out)⟩)
         rintro ⟨gb125, gb126⟩ w39 ⟨hS_, h0_, h1_, h2_, h3_, h4_, h5_, h6_, h7_, h8_, h9_, h10_, h11_, h12_, h13_, h14_⟩
         have n0_ : Aside0 (Kd.R Kd.string 9 w39 w.heap.size (fun _ => True) (.slice (some ad119) x3_1.length co34) x3_1) := ⟨h0_⟩
         have n1_ : Aside0 (w39.heap[gb110]? = some (.cells #[.string (⟨#[]⟩ : ByteArray), .int .i64 0, .int .i64 0] 46 (0, 0))) := ⟨h1_⟩
         have n2_ : Aside0 (w39.heap[gb125]? = some (.cells #[.int .i64 0, .bool false] 96 (0, 0))) := ⟨h2_⟩
         have n3_ : Aside0 (w39.heap[gb126]? = some (.cells #[.int .i64 0, .bool false] 96 (0, 0))) := ⟨h3_⟩
         have n4_ : Aside0 (w.heap.size ≤ gb125) := ⟨h4_⟩
         have n5_ : Aside0 (w.heap.size ≤ gb125) := ⟨h5_⟩
         have n6_ : Aside0 (gb110 ≠ gb125) := ⟨h6_⟩
         have n7_ : Aside0 (gb125 ≠ gb110) := ⟨h7_⟩
         have n8_ : Aside0 (gb126 ≠ gb125) := ⟨h8_⟩
         have n9_ : Aside0 (gb125 ≠ gb126) := ⟨h9_⟩
         have n10_ : Aside0 (w.heap.size ≤ gb126) := ⟨h10_⟩
         have n11_ : Aside0 (w.heap.size ≤ gb126) := ⟨h11_⟩
         have n12_ : Aside0 (gb110 ≠ gb126) := ⟨h12_⟩
         have n13_ : Aside0 (gb126 ≠ gb110) := ⟨h13_⟩
         have n14_ : Aside0 (Below w.heap.size w w39) := ⟨h14_⟩
         clear HO_3
         clear BK110
         clear HB
         clear h0_ h1_ h2_ h3_ h4_ h5_ h6_ h7_ h8_ h9_ h10_ h11_ h12_ h13_ h14_
         have HO_3 := n0_
         have BK110 := n1_
         have BK125 := n2_
         have BK126 := n3_
         have GW125 := n4_
         have GE125 := n5_
         have NB110_125 := n6_
         have NB125_110 := n7_
         have NB126_125 := n8_
         have NB125_126 := n9_
         have GW126 := n10_
         have GE126 := n11_
         have NB110_126 := n12_
         have NB126_110 := n13_
         have HB := n14_
         clear n0_ n1_ n2_ n3_ n4_ n5_ n6_ n7_ n8_ n9_ n10_ n11_ n12_ n13_ n14_
         have hHeld : w39.cell? ⟨ad119.block, ad119.off + 1, none⟩ = some (.string (rdOf ByteArray.empty x3_1 1)) ∧ w39.cell? ⟨ad119.block, ad119.off + 2, none⟩ = some (.string (rdOf ByteArray.empty x3_1 2)) := hS_
         refine norm_ (a' := ?_) ?_ ?_
         rotate_left
         ·simp only [putAll, Act.put, List.setIfInBounds_toArray, List.set_cons_zero, List.set_cons_succ]
          rfl
         refine one_ (i := 10) (N := none) (ml_ 12 2047) rfl rfl (one_of HT_.out (by kernel_rfl)) (by decide) (fun K hK => ?_)
         have hs40 : w39.cell? ⟨gb125, 0, none⟩ = some (.int .i64 0) := (blk_cell BK125.out 0).trans rfl
         have hfs40 := blk_frozen BK125.out 0
         have hns40_0 := NB110_125.out
         have hns40_2 := NB126_125.out
         have hms40_0 := NB125_110.out
         have hms40_2 := NB125_126.out
         have hs41 : w39.cell? ⟨gb125, 1, none⟩ = some (.bool false) := (blk_cell BK125.out 1).trans rfl
         have hfs41 := blk_frozen BK125.out 1
         have hns41_0 := NB110_125.out
         have hns41_2 := NB126_125.out
         have hms41_0 := NB125_110.out
         have hms41_2 := NB125_126.out
         refine skip_ (w1 := ?_) (by rfl) rfl ?_ ?_
         rotate_left
         ·go_simp
          rfl
         refine hK.out _ _ ⟨((cell_far (p := ⟨gb125, _, none⟩) (qd7fe_ HO_3.out BK125.out) _).trans (((cell_far (p := ⟨gb125, _, none⟩) (qd7fe_ HO_3.out BK125.out) _).trans (hHeld.1)))), ((cell_far (p := ⟨gb125, _, none⟩) (qd7fe_ HO_3.out BK125.out) _).trans (((cell_far (p := ⟨gb125, _, none⟩) (qd7fe_ HO_3.out BK125.out) _).trans (hHeld.2))))⟩ (fun hHeld => ?_)
         clear hK K
         refine one_ (i := 11) (N := none) (ml_ 12 4095) rfl rfl (one_of HT_.out (by kernel_rfl)) (by decide) (fun K hK => ?_)
         have hs42 : w39.cell? ⟨gb126, 0, none⟩ = some (.int .i64 0) := (blk_cell BK126.out 0).trans rfl
         have hfs42 := blk_frozen BK126.out 0
         have hns42_0 := NB110_126.out
         have hns42_1 := NB125_126.out
         have hms42_0 := NB126_110.out
         have hms42_1 := NB126_125.out
         have hs43 : w39.cell? ⟨gb126, 1, none⟩ = some (.bool false) := (blk_cell BK126.out 1).trans rfl
         have hfs43 := blk_frozen BK126.out 1
         have hns43_0 := NB110_126.out
         have hns43_1 := NB125_126.out
         have hms43_0 := NB126_110.out
         have hms43_1 := NB126_125.out
         refine skip_ (w1 := ?_) (by rfl) rfl ?_ ?_
         rotate_left
         ·go_simp
          rfl
         refine hK.out _ _ ⟨((cell_far (p := ⟨gb126, _, none⟩) (qd7fe_ HO_3.out BK126.out) _).trans (((cell_far (p := ⟨gb126, _, none⟩) (qd7fe_ HO_3.out BK126.out) _).trans (hHeld.1)))), ((cell_far (p := ⟨gb126, _, none⟩) (qd7fe_ HO_3.out BK126.out) _).trans (((cell_far (p := ⟨gb126, _, none⟩) (qd7fe_ HO_3.out BK126.out) _).trans (hHeld.2))))⟩ (fun hHeld => ?_)
         clear hK K
         refine done_ (done_of HT_.out (by kernel_rfl)) ?_
         go_upto_region 12 with (fail)
         go_cut [84] (fun v84 wc => ∃ (kq : Nat) (x84_31 : Bool), v84 = .bool x84_31 ∧ Aside0 (caravanref13_ReadRoute.j2 kq x3_1 x84_31 t120 t121 t123 t124 = some (r1, r2, r3)) ∧ Aside0 (kq ≤ kj18) ∧ Aside0 (Kd.R Kd.string 9 wc w.heap.size (fun _ => True) (.slice (some ad119) x3_1.length co34) x3_1) ∧ Aside0 (wc.heap[gb110]? = some (.cells #[.string (⟨#[]⟩ : ByteArray), .int .i64 0, .int .i64 0] 46 (0, 0))) ∧ Aside0 (wc.heap[gb125]? = some (.cells #[.int .i64 t120, .bool t121] 96 (0, 0))) ∧ Aside0 (wc.heap[gb126]? = some (.cells #[.int .i64 t123, .bool t124] 96 (0, 0))) ∧ Aside0 (Below w.heap.size w wc))
         case first =>
          have H := HC32.out
          clear HC32
          by_cases c44 : t121 = true
          ·subst c44
           have H1 : (if t124 = true then (if t120 < 0 then (caravanref13_ReadRoute.j2 kj18 x3_1 true t120 true t123 t124) else (if t120 ≥ 16384 then (caravanref13_ReadRoute.j2 kj18 x3_1 true t120 true t123 t124) else (if t123 < 0 then (caravanref13_ReadRoute.j2 kj18 x3_1 true t120 true t123 t124) else (caravanref13_ReadRoute.j2 kj18 x3_1 (decide (t123 ≥ 8)) t120 true t123 t124)))) else (caravanref13_ReadRoute.j2 kj18 x3_1 true t120 true t123 t124)) = some (r1, r2, r3) := by rw [if_pos rfl] at H; exact H
           clear H
           have H := H1
           clear H1
           by_cases c45 : t124 = true
           ·subst c45
            have H1 : (if t120 < 0 then (caravanref13_ReadRoute.j2 kj18 x3_1 true t120 true t123 true) else (if t120 ≥ 16384 then (caravanref13_ReadRoute.j2 kj18 x3_1 true t120 true t123 true) else (if t123 < 0 then (caravanref13_ReadRoute.j2 kj18 x3_1 true t120 true t123 true) else (caravanref13_ReadRoute.j2 kj18 x3_1 (decide (t123 ≥ 8)) t120 true t123 true)))) = some (r1, r2, r3) := by rw [if_pos rfl] at H; exact H
            clear H
            have H := H1
            clear H1
            by_cases c46 : t120 < 0
            ·rw [if_pos c46] at H
             have c46b0 : decide (t120 < 0) = true := decide_eq_true c46
             clear c46
             (first | rw [c46b0] | (simp only [i64_w, i32_w]; rw [c46b0]) | skip)
             have H' := Aside0.mk H
             clear H
             have hnb47 := NB125_110.out
             have hnc47 := NB110_125.out
             have hnb48 := NB125_126.out
             have hnc48 := NB126_125.out
             have hcz49_0 : w39.cell? ⟨gb125, 0, none⟩ = some (.int .i64 0) := (blk_cell BK125.out 0).trans rfl
             have hcz49_1 : w39.cell? ⟨gb125, 1, none⟩ = some (.bool false) := (blk_cell BK125.out 1).trans rfl
             have hfz49_0 := blk_frozen BK125.out 0
             have hfz49_1 := blk_frozen BK125.out 1
             have hnb50 := NB126_110.out
             have hnc50 := NB110_126.out
             have hcz51_0 : w39.cell? ⟨gb126, 0, none⟩ = some (.int .i64 0) := (blk_cell BK126.out 0).trans rfl
             have hcz51_1 : w39.cell? ⟨gb126, 1, none⟩ = some (.bool false) := (blk_cell BK126.out 1).trans rfl
             have hfz51_0 := blk_frozen BK126.out 0
             have hfz51_1 := blk_frozen BK126.out 1
             go_wp2
             go_meet
             case rel => exact ⟨_, (true), (by first | rfl | (simp; done) | (simp [*]; done)), H', ⟨by have := HK1.out; have := HJ18.out; first | omega | exact Nat.le_refl _⟩, ⟨by (with_reducible repeat (first | apply Kd.R_alloc | apply Kd.R_drewN | apply Kd.R_drew)); exact Kd.R_mono (Kd.R_far (p := ⟨gb126, 1, none⟩) (Kd.R_far (p := ⟨gb126, 0, none⟩) (Kd.R_far (p := ⟨gb125, 1, none⟩) (Kd.R_far (p := ⟨gb125, 0, none⟩) (Kd.R_types (Kd.R_types HO_3.out BK125.out (by decide)) BK126.out (by decide)) (fun _ hk => hk.1.2) (.int .i64 t120)) (fun _ hk => hk.1.2) (.bool true)) (fun _ hk => hk.2) (.int .i64 t123)) (fun _ hk => hk.2) (.bool true)) (fun _ hk => trivial)⟩, ⟨by (with_reducible repeat (first | refine blk_drewN ?_ _ | refine blk_drew ?_ | refine blk_alloc ?_ _)); refine blk_far ?_ NB110_126.out _; (with_reducible repeat (first | refine blk_drewN ?_ _ | refine blk_drew ?_ | refine blk_alloc ?_ _)); refine blk_far ?_ NB110_126.out _; (with_reducible repeat (first | refine blk_drewN ?_ _ | refine blk_drew ?_ | refine blk_alloc ?_ _)); refine blk_far ?_ NB110_125.out _; (with_reducible repeat (first | refine blk_drewN ?_ _ | refine blk_drew ?_ | refine blk_alloc ?_ _)); refine blk_far ?_ NB110_125.out _; (with_reducible repeat (first | refine blk_drewN ?_ _ | refine blk_drew ?_ | refine blk_alloc ?_ _)); exact BK110.out⟩, ⟨by (with_reducible repeat (first | refine blk_drewN ?_ _ | refine blk_drew ?_ | refine blk_alloc ?_ _)); refine blk_far ?_ NB125_126.out _; (with_reducible repeat (first | refine blk_drewN ?_ _ | refine blk_drew ?_ | refine blk_alloc ?_ _)); refine blk_far ?_ NB125_126.out _; (with_reducible repeat (first | refine blk_drewN ?_ _ | refine blk_drew ?_ | refine blk_alloc ?_ _)); refine blk_put (cs := #[.int .i64 t120, .bool false]) ?_ 1 _ rfl; (with_reducible repeat (first | refine blk_drewN ?_ _ | refine blk_drew ?_ | refine blk_alloc ?_ _)); refine blk_put (cs := #[.int .i64 0, .bool false]) ?_ 0 _ rfl; (with_reducible repeat (first | refine blk_drewN ?_ _ | refine blk_drew ?_ | refine blk_alloc ?_ _)); exact BK125.out⟩, ⟨by (with_reducible repeat (first | refine blk_drewN ?_ _ | refine blk_drew ?_ | refine blk_alloc ?_ _)); refine blk_put (cs := #[.int .i64 t123, .bool false]) ?_ 1 _ rfl; (with_reducible repeat (first | refine blk_drewN ?_ _ | refine blk_drew ?_ | refine blk_alloc ?_ _)); refine blk_put (cs := #[.int .i64 0, .bool false]) ?_ 0 _ rfl; (with_reducible repeat (first | refine blk_drewN ?_ _ | refine blk_drew ?_ | refine blk_alloc ?_ _)); refine blk_far ?_ NB126_125.out _; (with_reducible repeat (first | refine blk_drewN ?_ _ | refine blk_drew ?_ | refine blk_alloc ?_ _)); refine blk_far ?_ NB126_125.out _; (with_reducible repeat (first | refine blk_drewN ?_ _ | refine blk_drew ?_ | refine blk_alloc ?_ _)); exact BK126.out⟩, ⟨(q1dc4_ HB.out GE110.out GE125.out GE126.out)⟩⟩
            ·rw [if_neg c46] at H
             have c46b0 : decide (t120 < 0) = false := decide_eq_false c46
             clear c46
             (first | rw [c46b0] | (simp only [i64_w, i32_w]; rw [c46b0]) | skip)
             by_cases c52 : t120 ≥ 16384
             ·rw [if_pos c52] at H
              have c52b0 : decide (16384 ≤ t120) = true := decide_eq_true c52
              clear c52
              have H' := Aside0.mk H
              clear H
              have hnb53 := NB125_110.out
              have hnc53 := NB110_125.out
              have hnb54 := NB125_126.out
              have hnc54 := NB126_125.out
              have hcz55_0 : w39.cell? ⟨gb125, 0, none⟩ = some (.int .i64 0) := (blk_cell BK125.out 0).trans rfl
              have hcz55_1 : w39.cell? ⟨gb125, 1, none⟩ = some (.bool false) := (blk_cell BK125.out 1).trans rfl
              have hfz55_0 := blk_frozen BK125.out 0
              have hfz55_1 := blk_frozen BK125.out 1
              have hnb56 := NB126_110.out
              have hnc56 := NB110_126.out
              have hcz57_0 : w39.cell? ⟨gb126, 0, none⟩ = some (.int .i64 0) := (blk_cell BK126.out 0).trans rfl
              have hcz57_1 : w39.cell? ⟨gb126, 1, none⟩ = some (.bool false) := (blk_cell BK126.out 1).trans rfl
              have hfz57_0 := blk_frozen BK126.out 0
              have hfz57_1 := blk_frozen BK126.out 1
              go_wp2
              go_meet
              case rel => exact ⟨_, (true), (by first | rfl | (simp; done) | (simp [*]; done)), H', ⟨by have := HK1.out; have := HJ18.out; first | omega | exact Nat.le_refl _⟩, ⟨by (with_reducible repeat (first | apply Kd.R_alloc | apply Kd.R_drewN | apply Kd.R_drew)); exact Kd.R_mono (Kd.R_far (p := ⟨gb126, 1, none⟩) (Kd.R_far (p := ⟨gb126, 0, none⟩) (Kd.R_far (p := ⟨gb125, 1, none⟩) (Kd.R_far (p := ⟨gb125, 0, none⟩) (Kd.R_types (Kd.R_types HO_3.out BK125.out (by decide)) BK126.out (by decide)) (fun _ hk => hk.1.2) (.int .i64 t120)) (fun _ hk => hk.1.2) (.bool true)) (fun _ hk => hk.2) (.int .i64 t123)) (fun _ hk => hk.2) (.bool true)) (fun _ hk => trivial)⟩, ⟨by (with_reducible repeat (first | refine blk_drewN ?_ _ | refine blk_drew ?_ | refine blk_alloc ?_ _)); refine blk_far ?_ NB110_126.out _; (with_reducible repeat (first | refine blk_drewN ?_ _ | refine blk_drew ?_ | refine blk_alloc ?_ _)); refine blk_far ?_ NB110_126.out _; (with_reducible repeat (first | refine blk_drewN ?_ _ | refine blk_drew ?_ | refine blk_alloc ?_ _)); refine blk_far ?_ NB110_125.out _; (with_reducible repeat (first | refine blk_drewN ?_ _ | refine blk_drew ?_ | refine blk_alloc ?_ _)); refine blk_far ?_ NB110_125.out _; (with_reducible repeat (first | refine blk_drewN ?_ _ | refine blk_drew ?_ | refine blk_alloc ?_ _)); exact BK110.out⟩, ⟨by (with_reducible repeat (first | refine blk_drewN ?_ _ | refine blk_drew ?_ | refine blk_alloc ?_ _)); refine blk_far ?_ NB125_126.out _; (with_reducible repeat (first | refine blk_drewN ?_ _ | refine blk_drew ?_ | refine blk_alloc ?_ _)); refine blk_far ?_ NB125_126.out _; (with_reducible repeat (first | refine blk_drewN ?_ _ | refine blk_drew ?_ | refine blk_alloc ?_ _)); refine blk_put (cs := #[.int .i64 t120, .bool false]) ?_ 1 _ rfl; (with_reducible repeat (first | refine blk_drewN ?_ _ | refine blk_drew ?_ | refine blk_alloc ?_ _)); refine blk_put (cs := #[.int .i64 0, .bool false]) ?_ 0 _ rfl; (with_reducible repeat (first | refine blk_drewN ?_ _ | refine blk_drew ?_ | refine blk_alloc ?_ _)); exact BK125.out⟩, ⟨by (with_reducible repeat (first | refine blk_drewN ?_ _ | refine blk_drew ?_ | refine blk_alloc ?_ _)); refine blk_put (cs := #[.int .i64 t123, .bool false]) ?_ 1 _ rfl; (with_reducible repeat (first | refine blk_drewN ?_ _ | refine blk_drew ?_ | refine blk_alloc ?_ _)); refine blk_put (cs := #[.int .i64 0, .bool false]) ?_ 0 _ rfl; (with_reducible repeat (first | refine blk_drewN ?_ _ | refine blk_drew ?_ | refine blk_alloc ?_ _)); refine blk_far ?_ NB126_125.out _; (with_reducible repeat (first | refine blk_drewN ?_ _ | refine blk_drew ?_ | refine blk_alloc ?_ _)); refine blk_far ?_ NB126_125.out _; (with_reducible repeat (first | refine blk_drewN ?_ _ | refine blk_drew ?_ | refine blk_alloc ?_ _)); exact BK126.out⟩, ⟨(q1dc4_ HB.out GE110.out GE125.out GE126.out)⟩⟩
             ·rw [if_neg c52] at H
              have c52b0 : decide (16384 ≤ t120) = false := decide_eq_false c52
              clear c52
              by_cases c58 : t123 < 0
              ·rw [if_pos c58] at H
               have c58b0 : decide (t123 < 0) = true := decide_eq_true c58
               clear c58
               have H' := Aside0.mk H
               clear H
               have hnb59 := NB125_110.out
               have hnc59 := NB110_125.out
               have hnb60 := NB125_126.out
               have hnc60 := NB126_125.out
               have hcz61_0 : w39.cell? ⟨gb125, 0, none⟩ = some (.int .i64 0) := (blk_cell BK125.out 0).trans rfl
               have hcz61_1 : w39.cell? ⟨gb125, 1, none⟩ = some (.bool false) := (blk_cell BK125.out 1).trans rfl
               have hfz61_0 := blk_frozen BK125.out 0
               have hfz61_1 := blk_frozen BK125.out 1
               have hnb62 := NB126_110.out
               have hnc62 := NB110_126.out
               have hcz63_0 : w39.cell? ⟨gb126, 0, none⟩ = some (.int .i64 0) := (blk_cell BK126.out 0).trans rfl
               have hcz63_1 : w39.cell? ⟨gb126, 1, none⟩ = some (.bool false) := (blk_cell BK126.out 1).trans rfl
               have hfz63_0 := blk_frozen BK126.out 0
               have hfz63_1 := blk_frozen BK126.out 1
               go_wp2
               go_meet
               case rel => exact ⟨_, (true), (by first | rfl | (simp; done) | (simp [*]; done)), H', ⟨by have := HK1.out; have := HJ18.out; first | omega | exact Nat.le_refl _⟩, ⟨by (with_reducible repeat (first | apply Kd.R_alloc | apply Kd.R_drewN | apply Kd.R_drew)); exact Kd.R_mono (Kd.R_far (p := ⟨gb126, 1, none⟩) (Kd.R_far (p := ⟨gb126, 0, none⟩) (Kd.R_far (p := ⟨gb125, 1, none⟩) (Kd.R_far (p := ⟨gb125, 0, none⟩) (Kd.R_types (Kd.R_types HO_3.out BK125.out (by decide)) BK126.out (by decide)) (fun _ hk => hk.1.2) (.int .i64 t120)) (fun _ hk => hk.1.2) (.bool true)) (fun _ hk => hk.2) (.int .i64 t123)) (fun _ hk => hk.2) (.bool true)) (fun _ hk => trivial)⟩, ⟨by (with_reducible repeat (first | refine blk_drewN ?_ _ | refine blk_drew ?_ | refine blk_alloc ?_ _)); refine blk_far ?_ NB110_126.out _; (with_reducible repeat (first | refine blk_drewN ?_ _ | refine blk_drew ?_ | refine blk_alloc ?_ _)); refine blk_far ?_ NB110_126.out _; (with_reducible repeat (first | refine blk_drewN ?_ _ | refine blk_drew ?_ | refine blk_alloc ?_ _)); refine blk_far ?_ NB110_125.out _; (with_reducible repeat (first | refine blk_drewN ?_ _ | refine blk_drew ?_ | refine blk_alloc ?_ _)); refine blk_far ?_ NB110_125.out _; (with_reducible repeat (first | refine blk_drewN ?_ _ | refine blk_drew ?_ | refine blk_alloc ?_ _)); exact BK110.out⟩, ⟨by (with_reducible repeat (first | refine blk_drewN ?_ _ | refine blk_drew ?_ | refine blk_alloc ?_ _)); refine blk_far ?_ NB125_126.out _; (with_reducible repeat (first | refine blk_drewN ?_ _ | refine blk_drew ?_ | refine blk_alloc ?_ _)); refine blk_far ?_ NB125_126.out _; (with_reducible repeat (first | refine blk_drewN ?_ _ | refine blk_drew ?_ | refine blk_alloc ?_ _)); refine blk_put (cs := #[.int .i64 t120, .bool false]) ?_ 1 _ rfl; (with_reducible repeat (first | refine blk_drewN ?_ _ | refine blk_drew ?_ | refine blk_alloc ?_ _)); refine blk_put (cs := #[.int .i64 0, .bool false]) ?_ 0 _ rfl; (with_reducible repeat (first | refine blk_drewN ?_ _ | refine blk_drew ?_ | refine blk_alloc ?_ _)); exact BK125.out⟩, ⟨by (with_reducible repeat (first | refine blk_drewN ?_ _ | refine blk_drew ?_ | refine blk_alloc ?_ _)); refine blk_put (cs := #[.int .i64 t123, .bool false]) ?_ 1 _ rfl; (with_reducible repeat (first | refine blk_drewN ?_ _ | refine blk_drew ?_ | refine blk_alloc ?_ _)); refine blk_put (cs := #[.int .i64 0, .bool false]) ?_ 0 _ rfl; (with_reducible repeat (first | refine blk_drewN ?_ _ | refine blk_drew ?_ | refine blk_alloc ?_ _)); refine blk_far ?_ NB126_125.out _; (with_reducible repeat (first | refine blk_drewN ?_ _ | refine blk_drew ?_ | refine blk_alloc ?_ _)); refine blk_far ?_ NB126_125.out _; (with_reducible repeat (first | refine blk_drewN ?_ _ | refine blk_drew ?_ | refine blk_alloc ?_ _)); exact BK126.out⟩, ⟨(q1dc4_ HB.out GE110.out GE125.out GE126.out)⟩⟩
              ·rw [if_neg c58] at H
               have c58b0 : decide (t123 < 0) = false := decide_eq_false c58
               clear c58
               have H' := Aside0.mk H
               clear H
               have hnb64 := NB125_110.out
               have hnc64 := NB110_125.out
               have hnb65 := NB125_126.out
               have hnc65 := NB126_125.out
               have hcz66_0 : w39.cell? ⟨gb125, 0, none⟩ = some (.int .i64 0) := (blk_cell BK125.out 0).trans rfl
               have hcz66_1 : w39.cell? ⟨gb125, 1, none⟩ = some (.bool false) := (blk_cell BK125.out 1).trans rfl
               have hfz66_0 := blk_frozen BK125.out 0
               have hfz66_1 := blk_frozen BK125.out 1
               have hnb67 := NB126_110.out
               have hnc67 := NB110_126.out
               have hcz68_0 : w39.cell? ⟨gb126, 0, none⟩ = some (.int .i64 0) := (blk_cell BK126.out 0).trans rfl
               have hcz68_1 : w39.cell? ⟨gb126, 1, none⟩ = some (.bool false) := (blk_cell BK126.out 1).trans rfl
               have hfz68_0 := blk_frozen BK126.out 0
               have hfz68_1 := blk_frozen BK126.out 1
               go_wp2
               go_meet
               case rel => exact ⟨_, (decide (t123 ≥ 8)), (by first | rfl | (simp; done) | (simp [*]; done)), H', ⟨by have := HK1.out; have := HJ18.out; first | omega | exact Nat.le_refl _⟩, ⟨by (with_reducible repeat (first | apply Kd.R_alloc | apply Kd.R_drewN | apply Kd.R_drew)); exact Kd.R_mono (Kd.R_far (p := ⟨gb126, 1, none⟩) (Kd.R_far (p := ⟨gb126, 0, none⟩) (Kd.R_far (p := ⟨gb125, 1, none⟩) (Kd.R_far (p := ⟨gb125, 0, none⟩) (Kd.R_types (Kd.R_types HO_3.out BK125.out (by decide)) BK126.out (by decide)) (fun _ hk => hk.1.2) (.int .i64 t120)) (fun _ hk => hk.1.2) (.bool true)) (fun _ hk => hk.2) (.int .i64 t123)) (fun _ hk => hk.2) (.bool true)) (fun _ hk => trivial)⟩, ⟨by (with_reducible repeat (first | refine blk_drewN ?_ _ | refine blk_drew ?_ | refine blk_alloc ?_ _)); refine blk_far ?_ NB110_126.out _; (with_reducible repeat (first | refine blk_drewN ?_ _ | refine blk_drew ?_ | refine blk_alloc ?_ _)); refine blk_far ?_ NB110_126.out _; (with_reducible repeat (first | refine blk_drewN ?_ _ | refine blk_drew ?_ | refine blk_alloc ?_ _)); refine blk_far ?_ NB110_125.out _; (with_reducible repeat (first | refine blk_drewN ?_ _ | refine blk_drew ?_ | refine blk_alloc ?_ _)); refine blk_far ?_ NB110_125.out _; (with_reducible repeat (first | refine blk_drewN ?_ _ | refine blk_drew ?_ | refine blk_alloc ?_ _)); exact BK110.out⟩, ⟨by (with_reducible repeat (first | refine blk_drewN ?_ _ | refine blk_drew ?_ | refine blk_alloc ?_ _)); refine blk_far ?_ NB125_126.out _; (with_reducible repeat (first | refine blk_drewN ?_ _ | refine blk_drew ?_ | refine blk_alloc ?_ _)); refine blk_far ?_ NB125_126.out _; (with_reducible repeat (first | refine blk_drewN ?_ _ | refine blk_drew ?_ | refine blk_alloc ?_ _)); refine blk_put (cs := #[.int .i64 t120, .bool false]) ?_ 1 _ rfl; (with_reducible repeat (first | refine blk_drewN ?_ _ | refine blk_drew ?_ | refine blk_alloc ?_ _)); refine blk_put (cs := #[.int .i64 0, .bool false]) ?_ 0 _ rfl; (with_reducible repeat (first | refine blk_drewN ?_ _ | refine blk_drew ?_ | refine blk_alloc ?_ _)); exact BK125.out⟩, ⟨by (with_reducible repeat (first | refine blk_drewN ?_ _ | refine blk_drew ?_ | refine blk_alloc ?_ _)); refine blk_put (cs := #[.int .i64 t123, .bool false]) ?_ 1 _ rfl; (with_reducible repeat (first | refine blk_drewN ?_ _ | refine blk_drew ?_ | refine blk_alloc ?_ _)); refine blk_put (cs := #[.int .i64 0, .bool false]) ?_ 0 _ rfl; (with_reducible repeat (first | refine blk_drewN ?_ _ | refine blk_drew ?_ | refine blk_alloc ?_ _)); refine blk_far ?_ NB126_125.out _; (with_reducible repeat (first | refine blk_drewN ?_ _ | refine blk_drew ?_ | refine blk_alloc ?_ _)); refine blk_far ?_ NB126_125.out _; (with_reducible repeat (first | refine blk_drewN ?_ _ | refine blk_drew ?_ | refine blk_alloc ?_ _)); exact BK126.out⟩, ⟨(q1dc4_ HB.out GE110.out GE125.out GE126.out)⟩⟩
           ·replace c45 := Bool.eq_false_iff.mpr c45
            subst c45
            have H1 : (caravanref13_ReadRoute.j2 kj18 x3_1 true t120 true t123 false) = some (r1, r2, r3) := by rw [if_neg (show ¬ (false = true) by decide)] at H; exact H
            clear H
            have H := H1
            clear H1
            have H' := Aside0.mk H
            clear H
            have hnb69 := NB125_110.out
            have hnc69 := NB110_125.out
            have hnb70 := NB125_126.out
            have hnc70 := NB126_125.out
            have hcz71_0 : w39.cell? ⟨gb125, 0, none⟩ = some (.int .i64 0) := (blk_cell BK125.out 0).trans rfl
            have hcz71_1 : w39.cell? ⟨gb125, 1, none⟩ = some (.bool false) := (blk_cell BK125.out 1).trans rfl
            have hfz71_0 := blk_frozen BK125.out 0
            have hfz71_1 := blk_frozen BK125.out 1
            have hnb72 := NB126_110.out
            have hnc72 := NB110_126.out
            have hcz73_0 : w39.cell? ⟨gb126, 0, none⟩ = some (.int .i64 0) := (blk_cell BK126.out 0).trans rfl
            have hcz73_1 : w39.cell? ⟨gb126, 1, none⟩ = some (.bool false) := (blk_cell BK126.out 1).trans rfl
            have hfz73_0 := blk_frozen BK126.out 0
            have hfz73_1 := blk_frozen BK126.out 1
            go_wp2
            go_meet
            case rel => exact ⟨_, (true), (by first | rfl | (simp; done) | (simp [*]; done)), H', ⟨by have := HK1.out; have := HJ18.out; first | omega | exact Nat.le_refl _⟩, ⟨by (with_reducible repeat (first | apply Kd.R_alloc | apply Kd.R_drewN | apply Kd.R_drew)); exact Kd.R_mono (Kd.R_far (p := ⟨gb126, 1, none⟩) (Kd.R_far (p := ⟨gb126, 0, none⟩) (Kd.R_far (p := ⟨gb125, 1, none⟩) (Kd.R_far (p := ⟨gb125, 0, none⟩) (Kd.R_types (Kd.R_types HO_3.out BK125.out (by decide)) BK126.out (by decide)) (fun _ hk => hk.1.2) (.int .i64 t120)) (fun _ hk => hk.1.2) (.bool true)) (fun _ hk => hk.2) (.int .i64 t123)) (fun _ hk => hk.2) (.bool false)) (fun _ hk => trivial)⟩, ⟨by (with_reducible repeat (first | refine blk_drewN ?_ _ | refine blk_drew ?_ | refine blk_alloc ?_ _)); refine blk_far ?_ NB110_126.out _; (with_reducible repeat (first | refine blk_drewN ?_ _ | refine blk_drew ?_ | refine blk_alloc ?_ _)); refine blk_far ?_ NB110_126.out _; (with_reducible repeat (first | refine blk_drewN ?_ _ | refine blk_drew ?_ | refine blk_alloc ?_ _)); refine blk_far ?_ NB110_125.out _; (with_reducible repeat (first | refine blk_drewN ?_ _ | refine blk_drew ?_ | refine blk_alloc ?_ _)); refine blk_far ?_ NB110_125.out _; (with_reducible repeat (first | refine blk_drewN ?_ _ | refine blk_drew ?_ | refine blk_alloc ?_ _)); exact BK110.out⟩, ⟨by (with_reducible repeat (first | refine blk_drewN ?_ _ | refine blk_drew ?_ | refine blk_alloc ?_ _)); refine blk_far ?_ NB125_126.out _; (with_reducible repeat (first | refine blk_drewN ?_ _ | refine blk_drew ?_ | refine blk_alloc ?_ _)); refine blk_far ?_ NB125_126.out _; (with_reducible repeat (first | refine blk_drewN ?_ _ | refine blk_drew ?_ | refine blk_alloc ?_ _)); refine blk_put (cs := #[.int .i64 t120, .bool false]) ?_ 1 _ rfl; (with_reducible repeat (first | refine blk_drewN ?_ _ | refine blk_drew ?_ | refine blk_alloc ?_ _)); refine blk_put (cs := #[.int .i64 0, .bool false]) ?_ 0 _ rfl; (with_reducible repeat (first | refine blk_drewN ?_ _ | refine blk_drew ?_ | refine blk_alloc ?_ _)); exact BK125.out⟩, ⟨by (with_reducible repeat (first | refine blk_drewN ?_ _ | refine blk_drew ?_ | refine blk_alloc ?_ _)); refine blk_put (cs := #[.int .i64 t123, .bool false]) ?_ 1 _ rfl; (with_reducible repeat (first | refine blk_drewN ?_ _ | refine blk_drew ?_ | refine blk_alloc ?_ _)); refine blk_put (cs := #[.int .i64 0, .bool false]) ?_ 0 _ rfl; (with_reducible repeat (first | refine blk_drewN ?_ _ | refine blk_drew ?_ | refine blk_alloc ?_ _)); refine blk_far ?_ NB126_125.out _; (with_reducible repeat (first | refine blk_drewN ?_ _ | refine blk_drew ?_ | refine blk_alloc ?_ _)); refine blk_far ?_ NB126_125.out _; (with_reducible repeat (first | refine blk_drewN ?_ _ | refine blk_drew ?_ | refine blk_alloc ?_ _)); exact BK126.out⟩, ⟨(q1dc4_ HB.out GE110.out GE125.out GE126.out)⟩⟩
          ·replace c44 := Bool.eq_false_iff.mpr c44
           subst c44
           have H1 : (caravanref13_ReadRoute.j2 kj18 x3_1 true t120 false t123 t124) = some (r1, r2, r3) := by rw [if_neg (show ¬ (false = true) by decide)] at H; exact H
           clear H
           have H := H1
           clear H1
           have H' := Aside0.mk H
           clear H
           have hnb74 := NB125_110.out
           have hnc74 := NB110_125.out
           have hnb75 := NB125_126.out
           have hnc75 := NB126_125.out
           have hcz76_0 : w39.cell? ⟨gb125, 0, none⟩ = some (.int .i64 0) := (blk_cell BK125.out 0).trans rfl
           have hcz76_1 : w39.cell? ⟨gb125, 1, none⟩ = some (.bool false) := (blk_cell BK125.out 1).trans rfl
           have hfz76_0 := blk_frozen BK125.out 0
           have hfz76_1 := blk_frozen BK125.out 1
           go_wp2
           go_meet
           case rel => exact ⟨_, (true), (by first | rfl | (simp; done) | (simp [*]; done)), H', ⟨by have := HK1.out; have := HJ18.out; first | omega | exact Nat.le_refl _⟩, ⟨by (with_reducible repeat (first | apply Kd.R_alloc | apply Kd.R_drewN | apply Kd.R_drew)); exact Kd.R_mono (Kd.R_far (p := ⟨gb126, 1, none⟩) (Kd.R_far (p := ⟨gb126, 0, none⟩) (Kd.R_far (p := ⟨gb125, 1, none⟩) (Kd.R_far (p := ⟨gb125, 0, none⟩) (Kd.R_types (Kd.R_types HO_3.out BK125.out (by decide)) BK126.out (by decide)) (fun _ hk => hk.1.2) (.int .i64 t120)) (fun _ hk => hk.1.2) (.bool false)) (fun _ hk => hk.2) (.int .i64 t123)) (fun _ hk => hk.2) (.bool t124)) (fun _ hk => trivial)⟩, ⟨by (with_reducible repeat (first | refine blk_drewN ?_ _ | refine blk_drew ?_ | refine blk_alloc ?_ _)); refine blk_far ?_ NB110_126.out _; (with_reducible repeat (first | refine blk_drewN ?_ _ | refine blk_drew ?_ | refine blk_alloc ?_ _)); refine blk_far ?_ NB110_126.out _; (with_reducible repeat (first | refine blk_drewN ?_ _ | refine blk_drew ?_ | refine blk_alloc ?_ _)); refine blk_far ?_ NB110_125.out _; (with_reducible repeat (first | refine blk_drewN ?_ _ | refine blk_drew ?_ | refine blk_alloc ?_ _)); refine blk_far ?_ NB110_125.out _; (with_reducible repeat (first | refine blk_drewN ?_ _ | refine blk_drew ?_ | refine blk_alloc ?_ _)); exact BK110.out⟩, ⟨by (with_reducible repeat (first | refine blk_drewN ?_ _ | refine blk_drew ?_ | refine blk_alloc ?_ _)); refine blk_far ?_ NB125_126.out _; (with_reducible repeat (first | refine blk_drewN ?_ _ | refine blk_drew ?_ | refine blk_alloc ?_ _)); refine blk_far ?_ NB125_126.out _; (with_reducible repeat (first | refine blk_drewN ?_ _ | refine blk_drew ?_ | refine blk_alloc ?_ _)); refine blk_put (cs := #[.int .i64 t120, .bool false]) ?_ 1 _ rfl; (with_reducible repeat (first | refine blk_drewN ?_ _ | refine blk_drew ?_ | refine blk_alloc ?_ _)); refine blk_put (cs := #[.int .i64 0, .bool false]) ?_ 0 _ rfl; (with_reducible repeat (first | refine blk_drewN ?_ _ | refine blk_drew ?_ | refine blk_alloc ?_ _)); exact BK125.out⟩, ⟨by (with_reducible repeat (first | refine blk_drewN ?_ _ | refine blk_drew ?_ | refine blk_alloc ?_ _)); refine blk_put (cs := #[.int .i64 t123, .bool false]) ?_ 1 _ rfl; (with_reducible repeat (first | refine blk_drewN ?_ _ | refine blk_drew ?_ | refine blk_alloc ?_ _)); refine blk_put (cs := #[.int .i64 0, .bool false]) ?_ 0 _ rfl; (with_reducible repeat (first | refine blk_drewN ?_ _ | refine blk_drew ?_ | refine blk_alloc ?_ _)); refine blk_far ?_ NB126_125.out _; (with_reducible repeat (first | refine blk_drewN ?_ _ | refine blk_drew ?_ | refine blk_alloc ?_ _)); refine blk_far ?_ NB126_125.out _; (with_reducible repeat (first | refine blk_drewN ?_ _ | refine blk_drew ?_ | refine blk_alloc ?_ _)); exact BK126.out⟩, ⟨(q1dc4_ HB.out GE110.out GE125.out GE126.out)⟩⟩
         case rest =>
          clear HC32
          try clear p2
          try clear c3
          try clear c4
          try clear c5
          try clear c6
          try clear c7
          try clear c37
          try clear c44
          try clear c45
          try clear c46
          try clear c46b0
          try clear c47
          try clear c48
          try clear c50
          try clear c52
          try clear c52b0
          try clear c53
          try clear c54
          try clear c56
          try clear c58
          try clear c58b0
          try clear c59
          try clear c60
          try clear c62
          try clear c64
          try clear c65
          try clear c67
          try clear c69
          try clear c70
          try clear c72
          try clear c74
          try clear c75
          try clear hcz49_0
          try clear hcz49_1
          try clear hcz51_0
          try clear hcz51_1
          try clear hcz55_0
          try clear hcz55_1
          try clear hcz57_0
          try clear hcz57_1
          try clear hcz61_0
          try clear hcz61_1
          try clear hcz63_0
          try clear hcz63_1
          try clear hcz66_0
          try clear hcz66_1
          try clear hcz68_0
          try clear hcz68_1
          try clear hcz71_0
          try clear hcz71_1
          try clear hcz73_0
          try clear hcz73_1
          try clear hcz76_0
          try clear hcz76_1
          try clear hfz49_0
          try clear hfz49_1
          try clear hfz51_0
          try clear hfz51_1
          try clear hfz55_0
          try clear hfz55_1
          try clear hfz57_0
          try clear hfz57_1
          try clear hfz61_0
          try clear hfz61_1
          try clear hfz63_0
          try clear hfz63_1
          try clear hfz66_0
          try clear hfz66_1
          try clear hfz68_0
          try clear hfz68_1
          try clear hfz71_0
          try clear hfz71_1
          try clear hfz73_0
          try clear hfz73_1
          try clear hfz76_0
          try clear hfz76_1
          obtain ⟨kq, x84_31, rfl, HA, HJ31, HO_3, BK110, BK125, BK126, HB⟩ := hcut
          cases kq with
          | zero => exact absurd HA.out (by simp [caravanref13_ReadRoute.j2])
          | succ kj31 =>
           have H := HA.out
           clear HA
           simp only [caravanref13_ReadRoute.j2] at H
           by_cases c77 : x84_31 = true
           ·subst c77
            have H1 : (some ((⟨#[]⟩ : ByteArray), 0, 0)) = some (r1, r2, r3) := by rw [if_pos rfl] at H; exact H
            clear H
            have H := H1
            clear H1
            simp only [Option.some.injEq, Prod.mk.injEq] at H
            obtain ⟨rfl, rfl, rfl⟩ := H
            have hnb78 := NB110_125.out
            have hnc78 := NB125_110.out
            have hnb79 := NB110_126.out
            have hnc79 := NB126_110.out
            have hcz80_0 : wc.cell? ⟨gb110, 0, none⟩ = some (.string (⟨#[]⟩ : ByteArray)) := (blk_cell BK110.out 0).trans rfl
            have hcz80_1 : wc.cell? ⟨gb110, 1, none⟩ = some (.int .i64 0) := (blk_cell BK110.out 1).trans rfl
            have hcz80_2 : wc.cell? ⟨gb110, 2, none⟩ = some (.int .i64 0) := (blk_cell BK110.out 2).trans rfl
            have hfz80_0 := blk_frozen BK110.out 0
            have hfz80_1 := blk_frozen BK110.out 1
            have hfz80_2 := blk_frozen BK110.out 2
            go_wp2
            refine bodyPost_ret (results_cell_row rfl _ _ gb110 46 #[.string (⟨#[]⟩ : ByteArray), .int .i64 0, .int .i64 0] (0, 0) _ rfl (by (with_reducible repeat (first | refine blk_drewN ?_ _ | refine blk_drew ?_ | refine blk_alloc ?_ _)); refine blk_put (cs := #[.string (⟨#[]⟩ : ByteArray), .int .i64 0, .int .i64 0]) ?_ 2 _ rfl; (with_reducible repeat (first | refine blk_drewN ?_ _ | refine blk_drew ?_ | refine blk_alloc ?_ _)); refine blk_put (cs := #[.string (⟨#[]⟩ : ByteArray), .int .i64 0, .int .i64 0]) ?_ 1 _ rfl; (with_reducible repeat (first | refine blk_drewN ?_ _ | refine blk_drew ?_ | refine blk_alloc ?_ _)); refine blk_put (cs := #[.string (⟨#[]⟩ : ByteArray), .int .i64 0, .int .i64 0]) ?_ 0 _ rfl; (with_reducible repeat (first | refine blk_drewN ?_ _ | refine blk_drew ?_ | refine blk_alloc ?_ _)); exact BK110.out) Tryd.underlying46 rfl (by kernel_rfl)) rfl ?_
            exact ⟨by first | rfl | (simp [errW_none, errW_some] <;> rfl) | (simp [*, errW_none, errW_some] <;> rfl), (q1dc4_ HB.out GE110.out GE125.out GE126.out)⟩
           ·replace c77 := Bool.eq_false_iff.mpr c77
            subst c77
            have H1 : (if 0 < (x3_1.length : Int) then (some (rdOf ByteArray.empty x3_1 0, t120, t123)) else (none)) = some (r1, r2, r3) := by rw [if_neg (show ¬ (false = true) by decide)] at H; exact H
            clear H
            have H := H1
            clear H1
            by_cases c81 : 0 < (x3_1.length : Int)
            ·rw [if_pos c81] at H
             have c81b0 : decide (0 < (x3_1.length : Int)) = true := decide_eq_true c81
             have c81b1 : decide (0 < x3_1.length) = true := decide_eq_true (by omega)
             clear c81
             simp only [Option.some.injEq, Prod.mk.injEq] at H
             obtain ⟨rfl, rfl, rfl⟩ := H
             try go_wp2
             have n0_ := Aside0.mk (Kd.R_drew HO_3.out)
             have n1_ := Aside0.mk (blk_drew BK110.out)
             have n2_ := Aside0.mk (blk_drew BK125.out)
             have n3_ := Aside0.mk (blk_drew BK126.out)
             have n4_ := Aside0.mk (below_drew1 HB.out)
             clear HO_3
             clear BK110
             clear BK125
             clear BK126
             clear HB
             have HO_3 := n0_
             have BK110 := n1_
             have BK125 := n2_
             have BK126 := n3_
             have HB := n4_
             clear n0_ n1_ n2_ n3_ n4_
             have p127 : 0 ≤ (0 : Int) := (by omega)
             have q127 : 0 < (x3_1.length : Int) := of_decide_eq_true (by first | (with_reducible assumption) | assumption)
             obtain ⟨ad127, e127, hx127_0⟩ := Kd.at_string (Kd.R_reads' HO_3.out).2.2 0 p127 q127
             obtain rfl : ad119 = ad127 := (by injection e127)
             have qi127 : (0 < x3_1.length) = True := eq_true (by omega)
             (try rw [show ((0 : Int)).toNat = 0 from rfl] at hx127_0)
             (try rw [Addr.add_zero'] at hx127_0)
             replace p127 := eq_true p127
             replace q127 := eq_true q127
             refine start_ (n := 9) (S := fun w' => w'.cell? ⟨gb125, 0, none⟩ = some (.int .i64 t120) ∧ w'.cell? ⟨gb125, 1, none⟩ = some (.bool t121) ∧ w'.cell? ⟨gb126, 0, none⟩ = some (.int .i64 t123) ∧ w'.cell? ⟨gb126, 1, none⟩ = some (.bool t124) ∧ w'.cell? ad119 = some (.string (rdOf ByteArray.empty x3_1 0))) (ds := []) (ml_ 9 0) (by kernel_rfl) rfl rfl ⟨(blk_cell BK125.out 0).trans rfl, (blk_cell BK125.out 1).trans rfl, (blk_cell BK126.out 0).trans rfl, (blk_cell BK126.out 1).trans rfl, hx127_0⟩ (fun hHeld => ?_); refine with_tabW caravanref13_ReadRoute.tab14 caravanref13_ReadRoute.bits14 (fun HT_ HW_ => ?_)
             generalize wc.drew = w82 at HO_3 BK110 BK125 BK126 HB hx127_0 hHeld ⊢
             refine pA_ 0 86 (ml_ 9 1) rfl rfl HT_.out ?_
             refine pA_ 1 87 (ml_ 9 3) rfl rfl HT_.out ?_
             refine pA_ 3 89 (ml_ 9 11) rfl rfl HT_.out ?_
             refine pA_ 5 91 (ml_ 9 43) rfl rfl HT_.out ?_
             refine t5_ 2 88 (ml_ 9 47) rfl rfl HT_.out HW_.out hHeld ?_
             refine t5_ 4 90 (ml_ 9 63) rfl rfl HT_.out HW_.out hHeld ?_
             refine t5_ 6 92 (ml_ 9 127) rfl rfl HT_.out HW_.out hHeld ?_
             refine pA_ 7 93 (ml_ 9 255) rfl rfl HT_.out ?_
             refine one_ (i := 8) (N := none) (ml_ 9 511) rfl rfl (one_of HT_.out (by kernel_rfl)) (by decide) (fun K hK => ?_)
             have hs83 : w82.cell? ⟨gb110, 0, none⟩ = some (.string (⟨#[]⟩ : ByteArray)) := (blk_cell BK110.out 0).trans rfl
             have hfs83 := blk_frozen BK110.out 0
             have hns83_1 := NB125_110.out
             have hns83_2 := NB126_110.out
             have hms83_1 := NB110_125.out
             have hms83_2 := NB110_126.out
             have hs84 : w82.cell? ⟨gb110, 1, none⟩ = some (.int .i64 0) := (blk_cell BK110.out 1).trans rfl
             have hfs84 := blk_frozen BK110.out 1
             have hns84_1 := NB125_110.out
             have hns84_2 := NB126_110.out
             have hms84_1 := NB110_125.out
             have hms84_2 := NB110_126.out
             have hs85 : w82.cell? ⟨gb110, 2, none⟩ = some (.int .i64 0) := (blk_cell BK110.out 2).trans rfl
             have hfs85 := blk_frozen BK110.out 2
             have hns85_1 := NB125_110.out
             have hns85_2 := NB126_110.out
             have hms85_1 := NB110_125.out
             have hms85_2 := NB110_126.out
             refine skip_ (w1 := ?_) (by rfl) rfl ?_ ?_
             rotate_left
             ·go_simp
              rfl
             refine hK.out _ _ ⟨((cell_far (p := ⟨gb110, _, none⟩) NB125_110.out _).trans (((cell_far (p := ⟨gb110, _, none⟩) NB125_110.out _).trans (((cell_far (p := ⟨gb110, _, none⟩) NB125_110.out _).trans (hHeld.1)))))), ((cell_far (p := ⟨gb110, _, none⟩) NB125_110.out _).trans (((cell_far (p := ⟨gb110, _, none⟩) NB125_110.out _).trans (((cell_far (p := ⟨gb110, _, none⟩) NB125_110.out _).trans (hHeld.2.1)))))), ((cell_far (p := ⟨gb110, _, none⟩) NB126_110.out _).trans (((cell_far (p := ⟨gb110, _, none⟩) NB126_110.out _).trans (((cell_far (p := ⟨gb110, _, none⟩) NB126_110.out _).trans (hHeld.2.2.1)))))), ((cell_far (p := ⟨gb110, _, none⟩) NB126_110.out _).trans (((cell_far (p := ⟨gb110, _, none⟩) NB126_110.out _).trans (((cell_far (p := ⟨gb110, _, none⟩) NB126_110.out _).trans (hHeld.2.2.2.1)))))), ((cell_far (p := ⟨gb110, _, none⟩) (qd7fe_ HO_3.out BK110.out) _).trans (((cell_far (p := ⟨gb110, _, none⟩) (qd7fe_ HO_3.out BK110.out) _).trans (((cell_far (p := ⟨gb110, _, none⟩) (qd7fe_ HO_3.out BK110.out) _).trans (hHeld.2.2.2.2))))))⟩ (fun hHeld => ?_)
             clear hK K
             refine done_ (done_of HT_.out (by kernel_rfl)) ?_
             try go_wp2
             refine bodyPost_ret (results_cell_row rfl _ _ gb110 46 #[.string (rdOf ByteArray.empty x3_1 0), .int .i64 t120, .int .i64 t123] (0, 0) _ rfl (by (with_reducible repeat (first | refine blk_drewN ?_ _ | refine blk_drew ?_ | refine blk_alloc ?_ _)); refine blk_put (cs := #[.string (rdOf ByteArray.empty x3_1 0), .int .i64 t120, .int .i64 0]) ?_ 2 _ rfl; (with_reducible repeat (first | refine blk_drewN ?_ _ | refine blk_drew ?_ | refine blk_alloc ?_ _)); refine blk_put (cs := #[.string (rdOf ByteArray.empty x3_1 0), .int .i64 0, .int .i64 0]) ?_ 1 _ rfl; (with_reducible repeat (first | refine blk_drewN ?_ _ | refine blk_drew ?_ | refine blk_alloc ?_ _)); refine blk_put (cs := #[.string (⟨#[]⟩ : ByteArray), .int .i64 0, .int .i64 0]) ?_ 0 _ rfl; (with_reducible repeat (first | refine blk_drewN ?_ _ | refine blk_drew ?_ | refine blk_alloc ?_ _)); exact BK110.out) Tryd.underlying46 rfl (by kernel_rfl)) rfl ?_
             exact ⟨by first | rfl | (simp [errW_none, errW_some] <;> rfl) | (simp [*, errW_none, errW_some] <;> rfl), (q1dc4_ HB.out GE110.out GE125.out GE126.out)⟩
            ·rw [if_neg c81] at H
             exact absurd H (by simp)
        ·rw [if_neg c30] at H
         exact absurd H (by simp)
       ·rw [if_neg c28] at H
        exact absurd H (by simp)

end Go.Proofs.YtijploopgmbhfaaDoor.G
