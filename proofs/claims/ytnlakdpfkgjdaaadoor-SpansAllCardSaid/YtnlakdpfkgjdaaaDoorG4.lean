/- What functions of the translation come to, and their calls' proofs; by a program of mine over the kit's print, with contracts given by hand beside. Conditions: where a plain function tells none, nothing is said. -/
import Derived.Test.YtnlakdpfkgjdaaaDoorG0
import Derived.Test.YtnlakdpfkgjdaaaDoorG3
namespace Go.Proofs.YtnlakdpfkgjdaaaDoor.G
open Go.RowKit Go.Proofs.YtnlakdpfkgjdaaaDoorW.PrintWords Go.Proofs.YtnlakdpfkgjdaaaDoorW.PrintLast Go.Proofs.YtnlakdpfkgjdaaaDoorW.PrintMore
attribute [local go_sem] max2_int min2_int max_two min_two max_three min_three max_four min_four   -- for this text's walks alone
set_option linter.unusedVariables false
set_option linter.unusedSimpArgs false

/-! ### caravanref1_marks: function 38 -/
mutual
def caravanref1_marks.l0 : Nat → List (S31) → List (S31) → List Int → Int → Option (List Int)
 | 0, _, _, _, _ => none
 | k + 1, x0, x1, x5, x6 => if x6 < (wrap64 ((x0.length : Int) + (x1.length : Int))) then (if x6 < (x0.length : Int) then (if 0 ≤ x6 then (caravanref1_marks.j1 k x0 x1 x5 x6 ((rd_T31 x0 x6).f0) ((rd_T31 x0 x6).f1)) else (none)) else (if 0 ≤ (wrap64 (x6 - (x0.length : Int))) then (if (wrap64 (x6 - (x0.length : Int))) < (x1.length : Int) then (caravanref1_marks.j1 k x0 x1 x5 x6 ((rd_T31 x1 (wrap64 (x6 - (x0.length : Int)))).f0) ((rd_T31 x1 (wrap64 (x6 - (x0.length : Int)))).f1)) else (none)) else (none))) else (some x5)
def caravanref1_marks.j1 : Nat → List (S31) → List (S31) → List Int → Int → Int → Int → Option (List Int)
 | 0, _, _, _, _, _, _ => none
 | k + 1, x0, x1, x5, x6, x216000, x216001 => if x216000 ≤ x216001 then ((caravanref1_Mark.f k x5 x216000).bind fun t218 => (if x216001 < 16384 then ((caravanref1_Mark.f k t218 (wrap64 (x216001 + 1))).bind fun t221 => (caravanref1_marks.l0 k x0 x1 t221 (wrap64 (x6 + 1)))) else (caravanref1_marks.l0 k x0 x1 t218 (wrap64 (x6 + 1))))) else (caravanref1_marks.l0 k x0 x1 x5 (wrap64 (x6 + 1)))
end
def caravanref1_marks.f (k : Nat) (l0 : List (S31)) (l1 : List (S31)) : Option (List Int) := caravanref1_marks.l0 k l0 l1 (([0, 16384] : List Int)) 0
theorem caravanref1_marks.mono_l : ∀ k, (∀ y0 y1 y2 y3, LeO (caravanref1_marks.l0 k y0 y1 y2 y3) (caravanref1_marks.l0 (k + 1) y0 y1 y2 y3)) ∧ (∀ y0 y1 y2 y3 y4 y5, LeO (caravanref1_marks.j1 k y0 y1 y2 y3 y4 y5) (caravanref1_marks.j1 (k + 1) y0 y1 y2 y3 y4 y5))
 | 0 => ⟨fun _ _ _ _ r h => by simp [caravanref1_marks.l0] at h, fun _ _ _ _ _ _ r h => by simp [caravanref1_marks.j1] at h⟩
 | k + 1 => by
  obtain ⟨ih0, ih1⟩ := caravanref1_marks.mono_l k
  refine ⟨?_, ?_⟩
  ·intro y0 y1 y2 y3
   unfold caravanref1_marks.l0
   repeat' first
   | (with_reducible exact ih0 _ _ _ _)
   | (with_reducible exact ih1 _ _ _ _ _ _)
   | (with_reducible exact caravanref1_Mark.mono _ _ _)
   | (with_reducible exact LeO.refl _)
   | (with_reducible exact LeO.none _)
   | (with_reducible refine LeO.ite ?_ ?_)
   | (with_reducible refine LeO.bind ?_ (fun _ => ?_))
   | exact ih0 _ _ _ _
   | exact ih1 _ _ _ _ _ _
   | exact caravanref1_Mark.mono _ _ _
   | exact LeO.none _
   | refine LeO.ite ?_ ?_
   | refine LeO.bind ?_ (fun _ => ?_)
  ·intro y0 y1 y2 y3 y4 y5
   unfold caravanref1_marks.j1
   repeat' first
   | (with_reducible exact ih0 _ _ _ _)
   | (with_reducible exact ih1 _ _ _ _ _ _)
   | (with_reducible exact caravanref1_Mark.mono _ _ _)
   | (with_reducible exact LeO.refl _)
   | (with_reducible exact LeO.none _)
   | (with_reducible refine LeO.ite ?_ ?_)
   | (with_reducible refine LeO.bind ?_ (fun _ => ?_))
   | exact ih0 _ _ _ _
   | exact ih1 _ _ _ _ _ _
   | exact caravanref1_Mark.mono _ _ _
   | exact LeO.none _
   | refine LeO.ite ?_ ?_
   | refine LeO.bind ?_ (fun _ => ?_)
theorem caravanref1_marks.mono : ∀ a0 a1 k, LeO (caravanref1_marks.f k a0 a1) (caravanref1_marks.f (k + 1) a0 a1) := by
 intro a0 a1 k
 obtain ⟨ih0, ih1⟩ := caravanref1_marks.mono_l k
 unfold caravanref1_marks.f
 repeat' first
  | (with_reducible exact ih0 _ _ _ _)
  | (with_reducible exact ih1 _ _ _ _ _ _)
  | (with_reducible exact caravanref1_Mark.mono _ _ _)
  | (with_reducible exact LeO.refl _)
  | (with_reducible exact LeO.none _)
  | (with_reducible refine LeO.ite ?_ ?_)
  | (with_reducible refine LeO.bind ?_ (fun _ => ?_))
  | exact ih0 _ _ _ _
  | exact ih1 _ _ _ _ _ _
  | exact caravanref1_Mark.mono _ _ _
  | exact LeO.none _
  | refine LeO.ite ?_ ?_
  | refine LeO.bind ?_ (fun _ => ?_)
set_option maxHeartbeats 8000000 in
set_option maxRecDepth 100000 in
theorem caravanref1_marks.calls (k : Nat) (A0 : Option Addr) (c0 : Nat) (l0 : List (S31)) (A1 : Option Addr) (c1 : Nat) (l1 : List (S31)) (r : List Int) (w : World) (hr0 : Kd.C k31 w A0 l0.length l0) (hc0 : l0.length ≤ c0) (hr1 : Kd.C k31 w A1 l1.length l1) (hc1 : l1.length ≤ c1) (h : caravanref1_marks.f k l0 l1 = some r) :
 Calls Tryd.prog 38 #[.slice A0 l0.length c0, .slice A1 l1.length c1] w fun e w' => ∃ v0_ : Value, e = .returned (v0_) ∧ Kd.R (Kd.int .i64) 3 w' w.heap.size (fun _ => True) v0_ r ∧ Below w.heap.size w w' := by
 have hu31 := Tryd.underlying31
 have HR0 := Aside0.mk hr0
 have HC0 := Aside0.mk hc0
 clear hr0 hc0
 have HR1 := Aside0.mk hr1
 have HC1 := Aside0.mk hc1
 clear hr1 hc1
 have HB := Aside0.mk (Below.refl w.heap.size w)
 have H : (caravanref1_marks.l0 k l0 l1 (([0, 16384] : List Int)) 0) = some r := h
 clear h
 obtain ⟨y212, hy212⟩ : ∃ y_ : List Int, y_ = (([0, 16384] : List Int)) := ⟨_, rfl⟩
 replace H : (caravanref1_marks.l0 k l0 l1 y212 0) = some r := by first | (rw [hy212]; with_reducible exact H) | (have H2_ := (Option.bind_some _ _).symm.trans H; rw [hy212]; with_reducible exact H2_) | (have H2_ := (Option.bind_some _ _).symm.trans H; with_reducible exact H2_) | with_reducible exact H | (rw [hy212]; exact H) | exact H
 have Ny212 := Aside0.mk hy212
 clear hy212
 have H' := Aside0.mk H
 clear H
 go_enter Tryd.func38, Tryd.ntmps38
 go_wp2_with (first | ((with_reducible refine gate_dst (N := 8) rfl ?_); refine Kd.R_lit (Kd.int .i64) _ 3 ?hg (N := 8) ?hd (xs := ([0, 16384] : List Int)) (inner := [.int .i64 0, .int .i64 16384]) (ok := fun _ => True) (okp := fun _ => True) ?hr ?hp (fun _ hk => hk) trivial (Below.refl _ _) (Nat.le_refl _) (by simp) ?_; (case hd => rfl); (case hg => rfl); (case hr => first | (go_simp; done) | (go_simp; rfl)); (case hp => exact (Reps.one (show Kd.M (Kd.int .i64) _ _ _ 0 [.int .i64 0] from rfl) (Reps.one (show Kd.M (Kd.int .i64) _ _ _ 16384 [.int .i64 16384] from rfl) (Reps.none _ _)))); intro v213 w3 ho4 hb hg_ hnew_; clear hg_ hnew_; (first | rw [← Ny212.out] at ho4 | (simp only [Int.reduceToNat] at ho4; rw [← Ny212.out] at ho4)); have n0_ := Aside0.mk (Kd.R_lower ho4 (below_size (qdb35_ HB.out))); have n1_ := Aside0.mk (below_step (qdb35_ HB.out) hb); clear HB; have HO214 := n0_; have HB := n1_; clear n0_ n1_; clear hb ho4))
 go_loopg [5, 6] k (fun kq v5 v6 w' => ∃ (x5_1 : List Int) (x6_1 : Int), v6 = .int .i64 x6_1 ∧ Aside0 (caravanref1_marks.l0 kq l0 l1 x5_1 x6_1 = some r) ∧ Aside0 (kq ≤ k) ∧ Aside0 (Kd.R (Kd.int .i64) 3 w' w.heap.size (fun _ => True) v5 x5_1) ∧ Aside0 (Below w.heap.size w w'))
 case atStart => exact ⟨(y212), (0), (by first | rfl | (simp; done) | (simp [*]; done)), H', ⟨Nat.le_refl _⟩, ⟨by (with_reducible repeat (first | apply Kd.R_alloc | apply Kd.R_drewN | apply Kd.R_drew)); exact HO214.out⟩, ⟨(qdb35_ HB.out)⟩⟩
 case round =>
  clear H'
  try clear c1
  try clear p2
  try clear c3
  obtain ⟨x5_1, x6_1, rfl, HA, HK1, HO_5, HB⟩ := hrel
  cases gk with
  | zero => exact absurd HA.out (by simp [caravanref1_marks.l0])
  | succ k1 =>
   have H := HA.out
   clear HA
   simp only [caravanref1_marks.l0] at H
   by_cases c5 : x6_1 < (wrap64 ((l0.length : Int) + (l1.length : Int)))
   ·rw [if_pos c5] at H
    have c5b0 : decide (x6_1 < (wrap64 ((l0.length : Int) + (l1.length : Int)))) = true := decide_eq_true c5
    clear c5
    have HC6 := Aside0.mk H
    clear H
    go_upto_if 22 with (first | ((with_reducible refine gate_dst (N := 7) rfl ?_); refine box_event ?hg (N := 7) ?hd (cs := #[.int .i64 0, .int .i64 0]) (t := 31) ?hr ?_; (case hd => rfl); (case hg => rfl); (case hr => first | (go_simp; done) | (go_simp; rfl)); intro gb215 hg w7 hbox hb; have n0_ := Aside0.mk (Kd.R_below (q8524_ HO_5.out) hb); have n1_ := Aside0.mk (below_step (qdb35_ HB.out) hb); have n2_ := Aside0.mk (hbox); have n3_ := Aside0.mk ((by rw [hg]; exact (below_size (qdb35_ HB.out)) : w.heap.size ≤ gb215)); have n4_ := Aside0.mk ((by rw [hg]; exact (below_size (qdb35_ HB.out)) : w.heap.size ≤ gb215)); clear HO_5; clear HB; have HO_5 := n0_; have HB := n1_; have BK215 := n2_; have GW215 := n3_; have GE215 := n4_; clear n0_ n1_ n2_ n3_ n4_; clear hb hbox hg; have hcz8_0 : w7.cell? ⟨gb215, 0, none⟩ = some (.int .i64 0) := (blk_cell BK215.out 0).trans rfl; have hcz8_1 : w7.cell? ⟨gb215, 1, none⟩ = some (.int .i64 0) := (blk_cell BK215.out 1).trans rfl; have hfz8_0 := blk_frozen BK215.out 0; have hfz8_1 := blk_frozen BK215.out 1))
    (try simp only [Act.put, List.setIfInBounds_toArray, List.set_cons_zero, List.set_cons_succ])
    go_cut [] (fun wc => ∃ (kq : Nat) (x216000_5 : Int) (x216001_5 : Int), Aside0 (caravanref1_marks.j1 kq l0 l1 x5_1 x6_1 x216000_5 x216001_5 = some r) ∧ Aside0 (kq ≤ k1) ∧ Aside0 (Kd.R (Kd.int .i64) 3 wc w.heap.size (fun _ => True) u5 x5_1) ∧ Aside0 (wc.heap[gb215]? = some (.cells #[.int .i64 x216000_5, .int .i64 x216001_5] 31 (0, 0))) ∧ Aside0 (Below w.heap.size w wc))
    case first =>
     have H := HC6.out
     clear HC6
     by_cases c9 : x6_1 < (l0.length : Int)
     ·rw [if_pos c9] at H
      have c9b0 : decide (x6_1 < (l0.length : Int)) = true := decide_eq_true c9
      clear c9
      (first | rw [c9b0] | (simp only [i64_w, i32_w]; rw [c9b0]) | skip)
      by_cases c10 : 0 ≤ x6_1
      ·rw [if_pos c10] at H
       have c10b0 : decide (0 ≤ x6_1) = true := decide_eq_true c10
       clear c10
       have H' := Aside0.mk H
       clear H
       have p216 : 0 ≤ (x6_1 : Int) := of_decide_eq_true (by first | (with_reducible assumption) | assumption)
       have q216 : x6_1 < (l0.length : Int) := of_decide_eq_true (by first | (with_reducible assumption) | assumption)
       obtain ⟨ad216, e216, hx216_0, hx216_1⟩ := at_T31 HR0.out x6_1 p216 q216
       cases e216
       have hn216_0 : ad216.block ≠ gb215 := Nat.ne_of_lt (Nat.lt_of_lt_of_le (by have := World.block_lt_of_cell? _ _ hx216_0; first | rwa [add_block] at this | exact this) GW215.out)
       have hn216_1 : ad216.block ≠ gb215 := Nat.ne_of_lt (Nat.lt_of_lt_of_le (by have := World.block_lt_of_cell? _ _ hx216_0; first | rwa [add_block] at this | exact this) GW215.out)
       replace hx216_0 := (HB.out.cell (World.block_lt_of_cell? w _ hx216_0)).trans hx216_0
       replace hx216_1 := (HB.out.cell (World.block_lt_of_cell? w _ hx216_1)).trans hx216_1
       replace hx216_0 := (cell_far (p := ⟨gb215, 0, none⟩) (by first | (rw [add_block]; exact hn216_0) | (show (Addr.add _ _).block ≠ _; rw [add_block]; exact hn216_0) | exact hn216_0) (.int .i64 0)).trans hx216_0
       replace hx216_1 := (cell_far (p := ⟨gb215, 0, none⟩) (by first | (rw [add_block]; exact hn216_0) | (show (Addr.add _ _).block ≠ _; rw [add_block]; exact hn216_0) | exact hn216_0) (.int .i64 0)).trans hx216_1
       replace hx216_0 := (cell_far (p := ⟨gb215, 1, none⟩) (by first | (rw [add_block]; exact hn216_1) | (show (Addr.add _ _).block ≠ _; rw [add_block]; exact hn216_1) | exact hn216_1) (.int .i64 0)).trans hx216_0
       replace hx216_1 := (cell_far (p := ⟨gb215, 1, none⟩) (by first | (rw [add_block]; exact hn216_1) | (show (Addr.add _ _).block ≠ _; rw [add_block]; exact hn216_1) | exact hn216_1) (.int .i64 0)).trans hx216_1
       clear hn216_0
       clear hn216_1
       replace p216 := eq_true p216
       replace q216 := eq_true q216
       have hcz11_0 : w7.cell? ⟨gb215, 0, none⟩ = some (.int .i64 0) := (blk_cell BK215.out 0).trans rfl
       have hcz11_1 : w7.cell? ⟨gb215, 1, none⟩ = some (.int .i64 0) := (blk_cell BK215.out 1).trans rfl
       have hfz11_0 := blk_frozen BK215.out 0
       have hfz11_1 := blk_frozen BK215.out 1
       go_wp2
       go_meet
       case rel => exact ⟨_, ((rd_T31 l0 x6_1).f0), ((rd_T31 l0 x6_1).f1), H', ⟨by have := HK1.out; first | omega | exact Nat.le_refl _⟩, ⟨by (with_reducible repeat (first | apply Kd.R_alloc | apply Kd.R_drewN | apply Kd.R_drew)); exact Kd.R_mono (Kd.R_far (p := ⟨gb215, 1, none⟩) (Kd.R_far (p := ⟨gb215, 0, none⟩) (Kd.R_far (p := ⟨gb215, 1, none⟩) (Kd.R_far (p := ⟨gb215, 0, none⟩) (Kd.R_types HO_5.out BK215.out (by decide)) (fun _ hk => hk.2) (.int .i64 0)) (fun _ hk => hk.2) (.int .i64 0)) (fun _ hk => hk.2) (.int .i64 ((rd_T31 l0 x6_1).f0))) (fun _ hk => hk.2) (.int .i64 ((rd_T31 l0 x6_1).f1))) (fun _ hk => trivial)⟩, ⟨by (with_reducible repeat (first | refine blk_drewN ?_ _ | refine blk_drew ?_ | refine blk_alloc ?_ _)); refine blk_put (cs := #[.int .i64 ((rd_T31 l0 x6_1).f0), .int .i64 0]) ?_ 1 _ rfl; (with_reducible repeat (first | refine blk_drewN ?_ _ | refine blk_drew ?_ | refine blk_alloc ?_ _)); refine blk_put (cs := #[.int .i64 0, .int .i64 0]) ?_ 0 _ rfl; (with_reducible repeat (first | refine blk_drewN ?_ _ | refine blk_drew ?_ | refine blk_alloc ?_ _)); refine blk_put (cs := #[.int .i64 0, .int .i64 0]) ?_ 1 _ rfl; (with_reducible repeat (first | refine blk_drewN ?_ _ | refine blk_drew ?_ | refine blk_alloc ?_ _)); refine blk_put (cs := #[.int .i64 0, .int .i64 0]) ?_ 0 _ rfl; (with_reducible repeat (first | refine blk_drewN ?_ _ | refine blk_drew ?_ | refine blk_alloc ?_ _)); exact BK215.out⟩, ⟨(qed14_ HB.out GE215.out)⟩⟩
      ·rw [if_neg c10] at H
       exact absurd H (by simp)
     ·rw [if_neg c9] at H
      have c9b0 : decide (x6_1 < (l0.length : Int)) = false := decide_eq_false c9
      clear c9
      (first | rw [c9b0] | (simp only [i64_w, i32_w]; rw [c9b0]) | skip)
      obtain ⟨ji12, hji12⟩ : ∃ j_ : Int, (wrap64 (x6_1 - (l0.length : Int))) = j_ := ⟨_, rfl⟩
      replace H : (if 0 ≤ (ji12) then (if (ji12) < (l1.length : Int) then (caravanref1_marks.j1 k1 l0 l1 x5_1 x6_1 ((rd_T31 l1 (ji12)).f0) ((rd_T31 l1 (ji12)).f1)) else (none)) else (none)) = some r := by first | (rw [hji12] at H; exact H) | (simp only [hji12] at H ⊢; exact H)
      have hji12w : (IntKind.i64.wrap (x6_1 - (l0.length : Int))) = ji12 := (i64_w _).trans hji12
      by_cases c13 : 0 ≤ (ji12)
      ·rw [if_pos c13] at H
       have c13b0 : decide (0 ≤ (ji12)) = true := decide_eq_true c13
       clear c13
       by_cases c14 : (ji12) < (l1.length : Int)
       ·rw [if_pos c14] at H
        have c14b0 : decide ((ji12) < (l1.length : Int)) = true := decide_eq_true c14
        clear c14
        have H' := Aside0.mk H
        clear H
        have p217 : 0 ≤ ((ji12) : Int) := of_decide_eq_true (by first | (with_reducible assumption) | assumption)
        have q217 : (ji12) < (l1.length : Int) := of_decide_eq_true (by first | (with_reducible assumption) | assumption)
        obtain ⟨ad217, e217, hx217_0, hx217_1⟩ := at_T31 HR1.out (ji12) p217 q217
        cases e217
        have hn217_0 : ad217.block ≠ gb215 := Nat.ne_of_lt (Nat.lt_of_lt_of_le (by have := World.block_lt_of_cell? _ _ hx217_0; first | rwa [add_block] at this | exact this) GW215.out)
        have hn217_1 : ad217.block ≠ gb215 := Nat.ne_of_lt (Nat.lt_of_lt_of_le (by have := World.block_lt_of_cell? _ _ hx217_0; first | rwa [add_block] at this | exact this) GW215.out)
        replace hx217_0 := (HB.out.cell (World.block_lt_of_cell? w _ hx217_0)).trans hx217_0
        replace hx217_1 := (HB.out.cell (World.block_lt_of_cell? w _ hx217_1)).trans hx217_1
        replace hx217_0 := (cell_far (p := ⟨gb215, 0, none⟩) (by first | (rw [add_block]; exact hn217_0) | (show (Addr.add _ _).block ≠ _; rw [add_block]; exact hn217_0) | exact hn217_0) (.int .i64 0)).trans hx217_0
        replace hx217_1 := (cell_far (p := ⟨gb215, 0, none⟩) (by first | (rw [add_block]; exact hn217_0) | (show (Addr.add _ _).block ≠ _; rw [add_block]; exact hn217_0) | exact hn217_0) (.int .i64 0)).trans hx217_1
        replace hx217_0 := (cell_far (p := ⟨gb215, 1, none⟩) (by first | (rw [add_block]; exact hn217_1) | (show (Addr.add _ _).block ≠ _; rw [add_block]; exact hn217_1) | exact hn217_1) (.int .i64 0)).trans hx217_0
        replace hx217_1 := (cell_far (p := ⟨gb215, 1, none⟩) (by first | (rw [add_block]; exact hn217_1) | (show (Addr.add _ _).block ≠ _; rw [add_block]; exact hn217_1) | exact hn217_1) (.int .i64 0)).trans hx217_1
        clear hn217_0
        clear hn217_1
        replace p217 := eq_true p217
        replace q217 := eq_true q217
        have hcz15_0 : w7.cell? ⟨gb215, 0, none⟩ = some (.int .i64 0) := (blk_cell BK215.out 0).trans rfl
        have hcz15_1 : w7.cell? ⟨gb215, 1, none⟩ = some (.int .i64 0) := (blk_cell BK215.out 1).trans rfl
        have hfz15_0 := blk_frozen BK215.out 0
        have hfz15_1 := blk_frozen BK215.out 1
        go_wp2
        go_meet
        case rel => exact ⟨_, ((rd_T31 l1 (ji12)).f0), ((rd_T31 l1 (ji12)).f1), H', ⟨by have := HK1.out; first | omega | exact Nat.le_refl _⟩, ⟨by (with_reducible repeat (first | apply Kd.R_alloc | apply Kd.R_drewN | apply Kd.R_drew)); exact Kd.R_mono (Kd.R_far (p := ⟨gb215, 1, none⟩) (Kd.R_far (p := ⟨gb215, 0, none⟩) (Kd.R_far (p := ⟨gb215, 1, none⟩) (Kd.R_far (p := ⟨gb215, 0, none⟩) (Kd.R_types HO_5.out BK215.out (by decide)) (fun _ hk => hk.2) (.int .i64 0)) (fun _ hk => hk.2) (.int .i64 0)) (fun _ hk => hk.2) (.int .i64 ((rd_T31 l1 (ji12)).f0))) (fun _ hk => hk.2) (.int .i64 ((rd_T31 l1 (ji12)).f1))) (fun _ hk => trivial)⟩, ⟨by (with_reducible repeat (first | refine blk_drewN ?_ _ | refine blk_drew ?_ | refine blk_alloc ?_ _)); refine blk_put (cs := #[.int .i64 ((rd_T31 l1 (ji12)).f0), .int .i64 0]) ?_ 1 _ rfl; (with_reducible repeat (first | refine blk_drewN ?_ _ | refine blk_drew ?_ | refine blk_alloc ?_ _)); refine blk_put (cs := #[.int .i64 0, .int .i64 0]) ?_ 0 _ rfl; (with_reducible repeat (first | refine blk_drewN ?_ _ | refine blk_drew ?_ | refine blk_alloc ?_ _)); refine blk_put (cs := #[.int .i64 0, .int .i64 0]) ?_ 1 _ rfl; (with_reducible repeat (first | refine blk_drewN ?_ _ | refine blk_drew ?_ | refine blk_alloc ?_ _)); refine blk_put (cs := #[.int .i64 0, .int .i64 0]) ?_ 0 _ rfl; (with_reducible repeat (first | refine blk_drewN ?_ _ | refine blk_drew ?_ | refine blk_alloc ?_ _)); exact BK215.out⟩, ⟨(qed14_ HB.out GE215.out)⟩⟩
       ·rw [if_neg c14] at H
        exact absurd H (by simp)
      ·rw [if_neg c13] at H
       exact absurd H (by simp)
    case rest =>
     clear HC6
     try clear c1
     try clear p2
     try clear q2
     try clear hx2
     try clear c3
     try clear c5
     try clear c5b0
     try clear p6
     try clear c9
     try clear c9b0
     try clear c10
     try clear c10b0
     try clear c13
     try clear c13b0
     try clear c14
     try clear c14b0
     try clear hcz11_0
     try clear hcz11_1
     try clear hcz15_0
     try clear hcz15_1
     try clear hcz8_0
     try clear hcz8_1
     try clear hfz11_0
     try clear hfz11_1
     try clear hfz15_0
     try clear hfz15_1
     try clear hfz8_0
     try clear hfz8_1
     try clear hx216_0
     try clear hx216_1
     try clear hx217_0
     try clear hx217_1
     try clear p2
     try clear p216
     try clear p217
     try clear q216
     try clear q217
     obtain ⟨kq, x216000_5, x216001_5, HA, HJ5, HO_5, BK215, HB⟩ := hcut
     cases kq with
     | zero => exact absurd HA.out (by simp [caravanref1_marks.j1])
     | succ kj5 =>
      have H := HA.out
      clear HA
      simp only [caravanref1_marks.j1] at H
      by_cases c16 : x216000_5 ≤ x216001_5
      ·rw [if_pos c16] at H
       have c16b0 : decide (x216000_5 ≤ x216001_5) = true := decide_eq_true c16
       clear c16
       replace H := Option.bind_eq_some_iff.mp H
       obtain ⟨t218, A170, H⟩ := H
       replace H : (if x216001_5 < 16384 then ((caravanref1_Mark.f kj5 t218 (wrap64 (x216001_5 + 1))).bind fun t221 => (caravanref1_marks.l0 kj5 l0 l1 t221 (wrap64 (x6_1 + 1)))) else (caravanref1_marks.l0 kj5 l0 l1 t218 (wrap64 (x6_1 + 1)))) = some r := H
       have A17 := Aside0.mk A170
       clear A170
       by_cases c18 : x216001_5 < 16384
       ·rw [if_pos c18] at H
        have c18b0 : decide (x216001_5 < 16384) = true := decide_eq_true c18
        clear c18
        replace H := Option.bind_eq_some_iff.mp H
        obtain ⟨t221, A190, H⟩ := H
        replace H : (caravanref1_marks.l0 kj5 l0 l1 t221 (wrap64 (x6_1 + 1))) = some r := H
        have A19 := Aside0.mk A190
        clear A190
        have H' := Aside0.mk H
        clear H
        have hcz20_0 : wc.cell? ⟨gb215, 0, none⟩ = some (.int .i64 x216000_5) := (blk_cell BK215.out 0).trans rfl
        have hcz20_1 : wc.cell? ⟨gb215, 1, none⟩ = some (.int .i64 x216001_5) := (blk_cell BK215.out 1).trans rfl
        have hfz20_0 := blk_frozen BK215.out 0
        have hfz20_1 := blk_frozen BK215.out 1
        obtain ⟨Ao21, co21, eo21⟩ := Kd.R_slice HO_5.out
        subst eo21
        go_wp2_with (first | ((with_reducible refine gate_callee (f := 55) rfl ?_); refine goesL_ (some 42) rfl rfl Tryd.func55 (by kernel_rfl) rfl #[.slice Ao21 x5_1.length co21, .int .i64 x216000_5] rfl qM_ ?_; (with_reducible refine (caravanref1_Mark.calls kj5 (fun k_ => some k_ = (.slice Ao21 x5_1.length co21 : Value).ownBlock) (.slice Ao21 x5_1.length co21) x5_1 x216000_5 t218 w _ ?side1 ?side2 A17.out).mono ?_); (case side1 => repeat (first | (with_reducible first | exact HB.out | apply below_alloc | apply pw_below_drewN | apply below_drew1 | refine below_set ?_ GE215.out) | exact HB.out)); (case side2 => exact Kd.R_tight rfl HO_5.out); rintro e w22 ⟨v219, rfl, ho0, hb, hkp⟩; refine ⟨_, rfl, ?_⟩; have n0_ := Aside0.mk (blk_kept (by (with_reducible repeat (first | refine blk_drewN ?_ _ | refine blk_drew ?_ | refine blk_alloc ?_ _)); exact BK215.out) hkp (fun hs_ => (fun e_ => (Kd.R_ne HO_5.out BK215.out (by decide)) e_) hs_)); have n1_ := Aside0.mk (Kd.R_mono (ok' := fun k_ => True) ho0 (fun k_ hk_ => trivial)); have n2_ := Aside0.mk (hb); clear BK215; clear HB; clear HO_5; have BK215 := n0_; have HO220 := n1_; have HB := n2_; clear n0_ n1_ n2_; (try clear hb); (try clear hkp); (try clear ho0); have hcz23_0 : w22.cell? ⟨gb215, 0, none⟩ = some (.int .i64 x216000_5) := (blk_cell BK215.out 0).trans rfl; have hcz23_1 : w22.cell? ⟨gb215, 1, none⟩ = some (.int .i64 x216001_5) := (blk_cell BK215.out 1).trans rfl; have hfz23_0 := blk_frozen BK215.out 0; have hfz23_1 := blk_frozen BK215.out 1; obtain ⟨Ao24, co24, eo24⟩ := Kd.R_slice HO220.out; subst eo24) | ((with_reducible refine gate_callee (f := 55) rfl ?_); refine goesL_ (some 57) rfl rfl Tryd.func55 (by kernel_rfl) rfl #[.slice Ao24 t218.length co24, .int .i64 (wrap64 (x216001_5 + 1))] rfl qM_ ?_; (with_reducible refine (caravanref1_Mark.calls kj5 (fun k_ => some k_ = (.slice Ao24 t218.length co24 : Value).ownBlock) (.slice Ao24 t218.length co24) t218 (wrap64 (x216001_5 + 1)) t221 w _ ?side1 ?side2 A19.out).mono ?_); (case side1 => repeat (first | (with_reducible first | exact HB.out | apply below_alloc | apply pw_below_drewN | apply below_drew1 | refine below_set ?_ GE215.out) | exact HB.out)); (case side2 => exact Kd.R_tight rfl HO220.out); rintro e w25 ⟨v222, rfl, ho0, hb, hkp⟩; refine ⟨_, rfl, ?_⟩; have n0_ := Aside0.mk (blk_kept (by (with_reducible repeat (first | refine blk_drewN ?_ _ | refine blk_drew ?_ | refine blk_alloc ?_ _)); exact BK215.out) hkp (fun hs_ => (fun e_ => (Kd.R_ne HO220.out BK215.out (by decide)) e_) hs_)); have n1_ := Aside0.mk (Kd.R_mono (ok' := fun k_ => True) ho0 (fun k_ hk_ => trivial)); have n2_ := Aside0.mk (hb); clear BK215; clear HB; clear HO220; have BK215 := n0_; have HO223 := n1_; have HB := n2_; clear n0_ n1_ n2_; (try clear hb); (try clear hkp); (try clear ho0)))
        go_roundg kj5
        case measure => have := HK1.out; have := HJ5.out; omega
        case rel => exact ⟨(t221), (wrap64 (x6_1 + 1)), (by first | rfl | (simp; done) | (simp [*]; done)), H', ⟨by have := HK1.out; have := HJ5.out; omega⟩, ⟨by (with_reducible repeat (first | apply Kd.R_alloc | apply Kd.R_drewN | apply Kd.R_drew)); exact HO223.out⟩, ⟨(qed14_ HB.out GE215.out)⟩⟩
       ·rw [if_neg c18] at H
        have c18b0 : decide (x216001_5 < 16384) = false := decide_eq_false c18
        clear c18
        have H' := Aside0.mk H
        clear H
        have hcz26_0 : wc.cell? ⟨gb215, 0, none⟩ = some (.int .i64 x216000_5) := (blk_cell BK215.out 0).trans rfl
        have hcz26_1 : wc.cell? ⟨gb215, 1, none⟩ = some (.int .i64 x216001_5) := (blk_cell BK215.out 1).trans rfl
        have hfz26_0 := blk_frozen BK215.out 0
        have hfz26_1 := blk_frozen BK215.out 1
        obtain ⟨Ao27, co27, eo27⟩ := Kd.R_slice HO_5.out
        subst eo27
        go_wp2_with (first | ((with_reducible refine gate_callee (f := 55) rfl ?_); refine goesL_ (some 42) rfl rfl Tryd.func55 (by kernel_rfl) rfl #[.slice Ao27 x5_1.length co27, .int .i64 x216000_5] rfl qM_ ?_; (with_reducible refine (caravanref1_Mark.calls kj5 (fun k_ => some k_ = (.slice Ao27 x5_1.length co27 : Value).ownBlock) (.slice Ao27 x5_1.length co27) x5_1 x216000_5 t218 w _ ?side1 ?side2 A17.out).mono ?_); (case side1 => repeat (first | (with_reducible first | exact HB.out | apply below_alloc | apply pw_below_drewN | apply below_drew1 | refine below_set ?_ GE215.out) | exact HB.out)); (case side2 => exact Kd.R_tight rfl HO_5.out); rintro e w28 ⟨v219, rfl, ho0, hb, hkp⟩; refine ⟨_, rfl, ?_⟩; have n0_ := Aside0.mk (blk_kept (by (with_reducible repeat (first | refine blk_drewN ?_ _ | refine blk_drew ?_ | refine blk_alloc ?_ _)); exact BK215.out) hkp (fun hs_ => (fun e_ => (Kd.R_ne HO_5.out BK215.out (by decide)) e_) hs_)); have n1_ := Aside0.mk (Kd.R_mono (ok' := fun k_ => True) ho0 (fun k_ hk_ => trivial)); have n2_ := Aside0.mk (hb); clear BK215; clear HB; clear HO_5; have BK215 := n0_; have HO220 := n1_; have HB := n2_; clear n0_ n1_ n2_; (try clear hb); (try clear hkp); (try clear ho0); have hcz29_0 : w28.cell? ⟨gb215, 0, none⟩ = some (.int .i64 x216000_5) := (blk_cell BK215.out 0).trans rfl; have hcz29_1 : w28.cell? ⟨gb215, 1, none⟩ = some (.int .i64 x216001_5) := (blk_cell BK215.out 1).trans rfl; have hfz29_0 := blk_frozen BK215.out 0; have hfz29_1 := blk_frozen BK215.out 1))
        go_roundg kj5
        case measure => have := HK1.out; have := HJ5.out; omega
        case rel => exact ⟨(t218), (wrap64 (x6_1 + 1)), (by first | rfl | (simp; done) | (simp [*]; done)), H', ⟨by have := HK1.out; have := HJ5.out; omega⟩, ⟨by (with_reducible repeat (first | apply Kd.R_alloc | apply Kd.R_drewN | apply Kd.R_drew)); exact HO220.out⟩, ⟨(qed14_ HB.out GE215.out)⟩⟩
      ·rw [if_neg c16] at H
       have c16b0 : decide (x216000_5 ≤ x216001_5) = false := decide_eq_false c16
       clear c16
       have H' := Aside0.mk H
       clear H
       have hcz30_0 : wc.cell? ⟨gb215, 0, none⟩ = some (.int .i64 x216000_5) := (blk_cell BK215.out 0).trans rfl
       have hcz30_1 : wc.cell? ⟨gb215, 1, none⟩ = some (.int .i64 x216001_5) := (blk_cell BK215.out 1).trans rfl
       have hfz30_0 := blk_frozen BK215.out 0
       have hfz30_1 := blk_frozen BK215.out 1
       go_wp2
       go_roundg kj5
       case measure => have := HK1.out; have := HJ5.out; omega
       case rel => exact ⟨(x5_1), (wrap64 (x6_1 + 1)), (by first | rfl | (simp; done) | (simp [*]; done)), H', ⟨by have := HK1.out; have := HJ5.out; omega⟩, ⟨by (with_reducible repeat (first | apply Kd.R_alloc | apply Kd.R_drewN | apply Kd.R_drew)); exact HO_5.out⟩, ⟨(qed14_ HB.out GE215.out)⟩⟩
   ·rw [if_neg c5] at H
    have c5b0 : decide (x6_1 < (wrap64 ((l0.length : Int) + (l1.length : Int)))) = false := decide_eq_false c5
    clear c5
    obtain rfl := Option.some.inj H
    go_wp2
    go_ret
    exact ⟨_, by first | rfl | (simp [errW_none, errW_some] <;> rfl) | (simp [*, errW_none, errW_some] <;> rfl), by (with_reducible repeat (first | apply Kd.R_alloc | apply Kd.R_drewN | apply Kd.R_drew)); exact HO_5.out, (qdb35_ HB.out)⟩

end Go.Proofs.YtnlakdpfkgjdaaaDoor.G
