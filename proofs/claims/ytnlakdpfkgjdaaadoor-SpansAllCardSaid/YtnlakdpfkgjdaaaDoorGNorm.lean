/- What caravan/spans.Norm comes to, and its calls; by a program of mine over the kit's print. Conditions: where the plain function tells none, nothing is said. -/
import Derived.Test.YtnlakdpfkgjdaaaDoorG0
import Derived.Test.YtnlakdpfkgjdaaaDoorGSaid
namespace Go.Proofs.YtnlakdpfkgjdaaaDoor.G
open Go.RowKit Go.Proofs.YtnlakdpfkgjdaaaDoorW.PrintWords Go.Proofs.YtnlakdpfkgjdaaaDoorW.PrintLast Go.Proofs.YtnlakdpfkgjdaaaDoorW.PrintMore
attribute [local go_sem] max2_int min2_int max_two min_two max_three min_three max_four min_four   -- for this text's walks alone
set_option linter.unusedVariables false
set_option linter.unusedSimpArgs false

/-! ### spans_Norm: function 16 -/
def spans_Norm.l0 : Nat → List (S31) → List (S31) → Int → Int → Option ((List (S31)))
 | 0, _, _, _, _ => none
 | k + 1, x3, x8, x9, x10 => if x10 < x9 then (if 0 ≤ x10 then (if x10 < (x8.length : Int) then (if (x3.length : Int) > 0 then (if 0 ≤ (wrap64 ((x3.length : Int) - 1)) then (if (wrap64 ((x3.length : Int) - 1)) < (x3.length : Int) then (if ((rd_T31 x8 x10).f0) ≤ (wrap64 (((rd_T31 x3 (wrap64 ((x3.length : Int) - 1))).f1) + 1)) then (spans_Norm.l0 k (x3.set ((wrap64 ((x3.length : Int) - 1)) : Int).toNat (⟨(rd_T31 x3 (wrap64 ((x3.length : Int) - 1))).f0, mx ((rd_T31 x3 (wrap64 ((x3.length : Int) - 1))).f1) ((rd_T31 x8 x10).f1)⟩ : S31)) x8 x9 (wrap64 (x10 + 1))) else (if x3.length < 8796093022208 then (spans_Norm.l0 k (x3 ++ [(⟨(rd_T31 x8 x10).f0, (rd_T31 x8 x10).f1⟩ : S31)]) x8 x9 (wrap64 (x10 + 1))) else (none))) else (none)) else (none)) else (if x3.length < 8796093022208 then (spans_Norm.l0 k (x3 ++ [(⟨(rd_T31 x8 x10).f0, (rd_T31 x8 x10).f1⟩ : S31)]) x8 x9 (wrap64 (x10 + 1))) else (none))) else (none)) else (none)) else (some x3)
def spans_Norm.f (k : Nat) (l0 : List (S31)) : Option ((List (S31))) := (spans_said.f l0).bind fun t101 => (spans_Norm.l0 k ([] : List (S31)) t101 (t101.length : Int) 0)
theorem spans_Norm.mono_l : ∀ k, (∀ y0 y1 y2 y3, LeO (spans_Norm.l0 k y0 y1 y2 y3) (spans_Norm.l0 (k + 1) y0 y1 y2 y3))
 | 0 => fun _ _ _ _ r h => by simp [spans_Norm.l0] at h
 | k + 1 => by
  have ih0 := spans_Norm.mono_l k
  ·intro y0 y1 y2 y3
   unfold spans_Norm.l0
   repeat' first
   | (with_reducible exact ih0 _ _ _ _)
   | (with_reducible exact LeO.refl _)
   | (with_reducible exact LeO.none _)
   | (with_reducible refine LeO.ite ?_ ?_)
   | (with_reducible refine LeO.bind ?_ (fun _ => ?_))
   | exact ih0 _ _ _ _
   | exact LeO.none _
   | refine LeO.ite ?_ ?_
   | refine LeO.bind ?_ (fun _ => ?_)
theorem spans_Norm.mono : ∀ a0 k, LeO (spans_Norm.f k a0) (spans_Norm.f (k + 1) a0) := by
 intro a0 k
 have ih0 := spans_Norm.mono_l k
 unfold spans_Norm.f
 repeat' first
  | (with_reducible exact ih0 _ _ _ _)
  | (with_reducible exact LeO.refl _)
  | (with_reducible exact LeO.none _)
  | (with_reducible refine LeO.ite ?_ ?_)
  | (with_reducible refine LeO.bind ?_ (fun _ => ?_))
  | exact ih0 _ _ _ _
  | exact LeO.none _
  | refine LeO.ite ?_ ?_
  | refine LeO.bind ?_ (fun _ => ?_)
def spans_Norm.T6 : Bool × List (List Nat × List Nat) := (true, [([], []), ([0], [0]), ([1], [1]), ([2], [2]), ([3, 2], [2, 3]), ([2], [2]), ([2], [2]), ([6, 2], [2, 6]), ([5, 7, 2], [2, 5, 7]), ([8, 2], [2, 8]), ([9, 2], [2, 9]), ([10, 2], [2, 10]), ([4, 11, 2], [2, 4, 11]), ([2, 12], [2, 12])])
def spans_Norm.B6 : List Nat := [0, 1, 3, 7, 15, 7, 7, 71, 231, 487, 999, 2023, 4095, 8191]
theorem spans_Norm.tab6 : rtab .any (opsOf Tryd.f16 6) = spans_Norm.T6 := by kernel_rfl
theorem spans_Norm.bits6 : waitsOk spans_Norm.T6.2 spans_Norm.B6 = true := by kernel_rfl
def spans_Norm.T7 : Bool × List (List Nat × List Nat) := (true, [([], []), ([], []), ([1], [1]), ([], []), ([], []), ([4], [4]), ([3, 5], [3, 5]), ([6], [6]), ([7], [7]), ([], []), ([9], [9]), ([8, 10], [8, 10]), ([0, 2, 0, 1, 2, 3, 4, 5, 6, 7, 8, 9, 10, 11], [0, 2]), ([12, 0, 1, 2, 3, 4, 5, 6, 7, 8, 9, 10, 11], [12]), ([13, 11, 0, 1, 2, 3, 4, 5, 6, 7, 8, 9, 10, 11], [11, 13])])
def spans_Norm.B7 : List Nat := [0, 0, 2, 0, 0, 16, 56, 120, 248, 0, 512, 2040, 4095, 8191, 16383]
theorem spans_Norm.tab7 : rtab .any (opsOf Tryd.f16 7) = spans_Norm.T7 := by kernel_rfl
theorem spans_Norm.bits7 : waitsOk spans_Norm.T7.2 spans_Norm.B7 = true := by kernel_rfl
set_option maxHeartbeats 8000000 in
set_option maxRecDepth 100000 in
theorem spans_Norm.calls (k : Nat) (A0 : Option Addr) (c0 : Nat) (l0 : List (S31)) (r : List (S31)) (w : World) (hr0 : Kd.C k31 w A0 l0.length l0) (hc0 : l0.length ≤ c0) (h : spans_Norm.f k l0 = some r) :
 Calls Tryd.prog 16 #[.slice A0 l0.length c0] w fun e w' => ∃ v0_ : Value, e = .returned (v0_) ∧ Kd.R k31 31 w' w.heap.size (fun _ => True) v0_ r ∧ Below w.heap.size w w' := by
 have hu31 := Tryd.underlying31
 have HR0 := Aside0.mk hr0
 have HC0 := Aside0.mk hc0
 clear hr0 hc0
 have HB := Aside0.mk (Below.refl w.heap.size w)
 have H : ((spans_said.f l0).bind fun t101 => (spans_Norm.l0 k ([] : List (S31)) t101 (t101.length : Int) 0)) = some r := h
 clear h
 replace H := Option.bind_eq_some_iff.mp H
 obtain ⟨t101, A20, H⟩ := H
 replace H : (spans_Norm.l0 k ([] : List (S31)) t101 (t101.length : Int) 0) = some r := H
 have A2 := Aside0.mk A20
 clear A20
 have H' := Aside0.mk H
 clear H
 go_enter Tryd.func16, Tryd.ntmps16
 go_wp2_with (first | ((with_reducible refine gate_callee (f := 32) rfl ?_); refine goesL_ (some 8) rfl rfl Tryd.func32 (by kernel_rfl) rfl #[.slice A0 l0.length c0] rfl (by (try simp only [List.map_toArray, List.map_cons, List.map_nil]); first | done | rfl | (simp only [List.length_drop, List.length_take]; rfl)) ?_; (with_reducible refine (spans_said.calls _ _ l0 t101 _ ?side1 ?side2 A2.out).mono ?_); (case side1 => repeat (first | exact HR0.out | (with_reducible refine Kd.C_alloc ?_ _) | (with_reducible refine Kd.C_drewN ?_ _) | (with_reducible refine Kd.C_drew ?_))); (case side2 => exact HC0.out); rintro e w3 ⟨v102, rfl, ho0, hb⟩; refine ⟨_, rfl, ?_⟩; have n0_ := Aside0.mk (Kd.V_lower (Kd.V_mono (ok' := fun k_ => True) ho0 (fun k_ hk_ => trivial)) (below_size (by repeat (first | (with_reducible first | exact HB.out | apply below_alloc | apply pw_below_drewN | apply below_drew1) | exact HB.out)))); have n1_ := Aside0.mk (below_step (by repeat (first | (with_reducible first | exact HB.out | apply below_alloc | apply pw_below_drewN | apply below_drew1) | exact HB.out)) hb); clear HB; have HO103 := n0_; have HB := n1_; clear n0_ n1_; (try clear hb); (try clear hb2); (try clear hk); (try clear hi); (try clear ho0); obtain ⟨Ao4, co4, eo4⟩ := Kd.V_slice HO103.out; subst eo4))
 go_loopg [3, 10] k (fun kq v3 v10 w' => ∃ (x3_1 : List (S31)) (x8_1 : List (S31)) (x10_1 : Int), v10 = .int .i64 x10_1 ∧ Aside0 (spans_Norm.l0 kq x3_1 x8_1 (t101.length : Int) x10_1 = some r) ∧ Aside0 (kq ≤ k) ∧ Aside0 (Kd.R k31 31 w' w.heap.size (fun _ => True) v3 x3_1) ∧ Aside0 (Kd.V k31 31 w' w.heap.size (fun k_ => some k_ ≠ (v3 : Value).ownBlock) (.slice Ao4 t101.length co4) x8_1) ∧ Aside0 (Below w.heap.size w w'))
 case atStart => exact ⟨(([] : List (S31))), (t101), (0), (by first | rfl | (simp; done) | (simp [*]; done)), H', ⟨Nat.le_refl _⟩, ⟨by first | exact Kd.R_nil _ _ _ _ _ | exact Kd.N_nil _ _ _ _ _ | exact Kd.V_nil _ _ _ _ _ | exact Kd.Q_nil _ _ _ _ _ | exact Kd.S_nil _ _ _ _ _⟩, ⟨by (with_reducible repeat (first | apply Kd.V_alloc | apply Kd.V_drewN | apply Kd.V_drew)); exact Kd.V_mono HO103.out (fun _ hk => (by simp [Value.ownBlock]))⟩, ⟨by repeat (first | (with_reducible first | exact HB.out | apply below_alloc | apply pw_below_drewN | apply below_drew1) | exact HB.out)⟩⟩
 case round =>
  clear H'
  try clear c1
  try clear p2
  try clear c3
  obtain ⟨x3_1, x8_1, x10_1, rfl, HA, HK1, HO_3, HO_8, HB⟩ := hrel
  have hl8_1 := (Kd.V_reads' HO_8.out).1
  rw [hl8_1] at HO_8
  (try simp only [hl8_1])
  (try simp only [hl8_1] at HO_3)
  cases gk with
  | zero => exact absurd HA.out (by simp [spans_Norm.l0])
  | succ k1 =>
   have H := HA.out
   clear HA
   simp only [spans_Norm.l0] at H
   by_cases c5 : x10_1 < (t101.length : Int)
   ·rw [if_pos c5] at H
    have c5b0 : decide (x10_1 < (t101.length : Int)) = true := decide_eq_true c5
    clear c5
    by_cases c6 : 0 ≤ x10_1
    ·rw [if_pos c6] at H
     have c6b0 : decide (0 ≤ x10_1) = true := decide_eq_true c6
     clear c6
     by_cases c7 : x10_1 < (x8_1.length : Int)
     ·rw [if_pos c7] at H
      have c7b0 : decide (x10_1 < (x8_1.length : Int)) = true := decide_eq_true c7
      clear c7
      by_cases c8 : (x3_1.length : Int) > 0
      ·rw [if_pos c8] at H
       have c8b0 : decide (0 < (x3_1.length : Int)) = true := decide_eq_true c8
       have c8b1 : decide (0 < x3_1.length) = true := decide_eq_true (by omega)
       clear c8
       obtain ⟨ji9, hji9⟩ : ∃ j_ : Int, (wrap64 ((x3_1.length : Int) - 1)) = j_ := ⟨_, rfl⟩
       replace H : (if 0 ≤ (ji9) then (if (ji9) < (x3_1.length : Int) then (if ((rd_T31 x8_1 x10_1).f0) ≤ (wrap64 (((rd_T31 x3_1 (ji9)).f1) + 1)) then (spans_Norm.l0 k1 (x3_1.set ((ji9) : Int).toNat (⟨(rd_T31 x3_1 (ji9)).f0, mx ((rd_T31 x3_1 (ji9)).f1) ((rd_T31 x8_1 x10_1).f1)⟩ : S31)) x8_1 (t101.length : Int) (wrap64 (x10_1 + 1))) else (if x3_1.length < 8796093022208 then (spans_Norm.l0 k1 (x3_1 ++ [(⟨(rd_T31 x8_1 x10_1).f0, (rd_T31 x8_1 x10_1).f1⟩ : S31)]) x8_1 (t101.length : Int) (wrap64 (x10_1 + 1))) else (none))) else (none)) else (none)) = some r := by first | (rw [hji9] at H; exact H) | (simp only [hji9] at H ⊢; exact H)
       have hji9w : (IntKind.i64.wrap ((x3_1.length : Int) - 1)) = ji9 := (i64_w _).trans hji9
       by_cases c10 : 0 ≤ (ji9)
       ·rw [if_pos c10] at H
        have c10b0 : decide (0 ≤ (ji9)) = true := decide_eq_true c10
        clear c10
        by_cases c11 : (ji9) < (x3_1.length : Int)
        ·rw [if_pos c11] at H
         have c11b0 : decide ((ji9) < (x3_1.length : Int)) = true := decide_eq_true c11
         clear c11
         by_cases c12 : ((rd_T31 x8_1 x10_1).f0) ≤ (wrap64 (((rd_T31 x3_1 (ji9)).f1) + 1))
         ·rw [if_pos c12] at H
          have c12b0 : decide (((rd_T31 x8_1 x10_1).f0) ≤ (wrap64 (((rd_T31 x3_1 (ji9)).f1) + 1))) = true := decide_eq_true c12
          clear c12
          obtain ⟨ji13, hji13⟩ : ∃ j_ : Int, (mx ((rd_T31 x3_1 (ji9)).f1) ((rd_T31 x8_1 x10_1).f1)) = j_ := ⟨_, rfl⟩
          replace H : (spans_Norm.l0 k1 (x3_1.set ((ji9) : Int).toNat (⟨(rd_T31 x3_1 (ji9)).f0, ji13⟩ : S31)) x8_1 (t101.length : Int) (wrap64 (x10_1 + 1))) = some r := by first | (rw [hji13] at H; exact H) | (simp only [hji13] at H ⊢; exact H)
          have hji13_ : (if ((rd_T31 x3_1 (ji9)).f1) < ((rd_T31 x8_1 x10_1).f1) then ((rd_T31 x8_1 x10_1).f1) else ((rd_T31 x3_1 (ji9)).f1)) = ji13 := hji13
          obtain ⟨y108, hy108⟩ : ∃ y_ : List (S31), y_ = (x3_1.set ((ji9) : Int).toNat (⟨(rd_T31 x3_1 (ji9)).f0, ji13⟩ : S31)) := ⟨_, rfl⟩
          replace H : (spans_Norm.l0 k1 y108 x8_1 (t101.length : Int) (wrap64 (x10_1 + 1))) = some r := by first | (rw [hy108]; with_reducible exact H) | (have H2_ := (Option.bind_some _ _).symm.trans H; rw [hy108]; with_reducible exact H2_) | (have H2_ := (Option.bind_some _ _).symm.trans H; with_reducible exact H2_) | with_reducible exact H | (rw [hy108]; exact H) | exact H
          have Ny108 := Aside0.mk hy108
          clear hy108
          have H' := Aside0.mk H
          clear H
          have p104 : 0 ≤ (x10_1 : Int) := of_decide_eq_true (by first | (with_reducible assumption) | assumption)
          have q104 : x10_1 < (x8_1.length : Int) := of_decide_eq_true (by first | (with_reducible assumption) | assumption)
          obtain ⟨ad104, e104, hx104_0, hx104_1⟩ := at_T31 (Kd.V_reads' HO_8.out).2.2 x10_1 p104 q104
          cases e104
          replace p104 := eq_true p104
          replace q104 := eq_true q104
          try go_wp2_with (first | ((with_reducible refine gate_dst (N := 5) rfl ?_); refine box_event ?hg (N := 5) ?hd (cs := #[.int .i64 0, .int .i64 0]) (t := 31) ?hr ?_; (case hd => rfl); (case hg => rfl); (case hr => first | (go_simp; done) | (go_simp; rfl)); intro gb105 hg w15 hbox hb; have n0_ := Aside0.mk (Kd.R_below (Kd.R_elderB (by (with_reducible repeat (first | apply Kd.R_alloc | apply Kd.R_drewN | apply Kd.R_drew)); exact HO_3.out) gb105 (Nat.le_of_eq hg.symm)) hb); have n1_ := Aside0.mk (Kd.V_below (Kd.V_elderB (by (with_reducible repeat (first | apply Kd.V_alloc | apply Kd.V_drewN | apply Kd.V_drew)); exact HO_8.out) gb105 (Nat.le_of_eq hg.symm)) hb); have n2_ := Aside0.mk (below_step (by repeat (first | (with_reducible first | exact HB.out | apply below_alloc | apply pw_below_drewN | apply below_drew1) | exact HB.out)) hb); have n3_ := Aside0.mk (hbox); have n4_ := Aside0.mk ((by rw [hg]; exact (below_size (by repeat (first | (with_reducible first | exact HB.out | apply below_alloc | apply pw_below_drewN | apply below_drew1) | exact HB.out))) : w.heap.size ≤ gb105)); have n5_ := Aside0.mk ((by rw [hg]; exact (below_size (by repeat (first | (with_reducible first | exact HB.out | apply below_alloc | apply pw_below_drewN | apply below_drew1) | exact HB.out))) : w.heap.size ≤ gb105)); clear HO_3; clear HO_8; clear HB; have HO_3 := n0_; have HO_8 := n1_; have HB := n2_; have BK105 := n3_; have GW105 := n4_; have GE105 := n5_; clear n0_ n1_ n2_ n3_ n4_ n5_; clear hb hbox hg; have hcz16_0 : w15.cell? ⟨gb105, 0, none⟩ = some (.int .i64 0) := (blk_cell BK105.out 0).trans rfl; have hcz16_1 : w15.cell? ⟨gb105, 1, none⟩ = some (.int .i64 0) := (blk_cell BK105.out 1).trans rfl; have hfz16_0 := blk_frozen BK105.out 0; have hfz16_1 := blk_frozen BK105.out 1; obtain ⟨Ao17, co17, eo17⟩ := Kd.R_slice HO_3.out; subst eo17))
          have n0_ : Aside0 (Kd.R k31 31 ((w15.setCell ⟨gb105, 0, none⟩ (.int .i64 ((rd_T31 x8_1 x10_1).f0))).setCell ⟨gb105, 1, none⟩ (.int .i64 ((rd_T31 x8_1 x10_1).f1))) w.heap.size (fun k_ => k_ ≠ gb105) (.slice Ao17 x3_1.length co17) x3_1) := ⟨by (with_reducible repeat (first | apply Kd.R_alloc | apply Kd.R_drewN | apply Kd.R_drew)); exact Kd.R_mono (Kd.R_far (p := ⟨gb105, 1, none⟩) (Kd.R_far (p := ⟨gb105, 0, none⟩) (Kd.R_mono HO_3.out (fun k_ hk => (⟨hk, hk.2⟩ : _ ∧ k_ ≠ gb105))) (fun _ hk => hk.2) (.int .i64 ((rd_T31 x8_1 x10_1).f0))) (fun _ hk => hk.2) (.int .i64 ((rd_T31 x8_1 x10_1).f1))) (fun _ hk => hk.1.2)⟩
          have n1_ : Aside0 (Kd.V k31 31 ((w15.setCell ⟨gb105, 0, none⟩ (.int .i64 ((rd_T31 x8_1 x10_1).f0))).setCell ⟨gb105, 1, none⟩ (.int .i64 ((rd_T31 x8_1 x10_1).f1))) w.heap.size (fun k_ => some k_ ≠ (.slice Ao17 x3_1.length co17 : Value).ownBlock ∧ k_ ≠ gb105) (.slice (some ad104) x8_1.length co4) x8_1) := ⟨by (with_reducible repeat (first | apply Kd.V_alloc | apply Kd.V_drewN | apply Kd.V_drew)); exact Kd.V_mono (Kd.V_far (p := ⟨gb105, 1, none⟩) (Kd.V_far (p := ⟨gb105, 0, none⟩) (Kd.V_mono HO_8.out (fun k_ hk => (⟨hk, hk.2⟩ : _ ∧ k_ ≠ gb105))) (fun _ hk => hk.2) (.int .i64 ((rd_T31 x8_1 x10_1).f0))) (fun _ hk => hk.2) (.int .i64 ((rd_T31 x8_1 x10_1).f1))) (fun _ hk => ⟨hk.1.1, hk.1.2⟩)⟩
          have n2_ : Aside0 (((w15.setCell ⟨gb105, 0, none⟩ (.int .i64 ((rd_T31 x8_1 x10_1).f0))).setCell ⟨gb105, 1, none⟩ (.int .i64 ((rd_T31 x8_1 x10_1).f1))).heap[gb105]? = some (.cells #[.int .i64 ((rd_T31 x8_1 x10_1).f0), .int .i64 ((rd_T31 x8_1 x10_1).f1)] 31 (0, 0))) := ⟨by (with_reducible repeat (first | refine blk_drewN ?_ _ | refine blk_drew ?_ | refine blk_alloc ?_ _)); refine blk_put (cs := #[.int .i64 ((rd_T31 x8_1 x10_1).f0), .int .i64 0]) ?_ 1 _ rfl; (with_reducible repeat (first | refine blk_drewN ?_ _ | refine blk_drew ?_ | refine blk_alloc ?_ _)); refine blk_put (cs := #[.int .i64 0, .int .i64 0]) ?_ 0 _ rfl; (with_reducible repeat (first | refine blk_drewN ?_ _ | refine blk_drew ?_ | refine blk_alloc ?_ _)); exact BK105.out⟩
          have n3_ : Aside0 (Below w.heap.size w ((w15.setCell ⟨gb105, 0, none⟩ (.int .i64 ((rd_T31 x8_1 x10_1).f0))).setCell ⟨gb105, 1, none⟩ (.int .i64 ((rd_T31 x8_1 x10_1).f1)))) := ⟨by repeat (first | (with_reducible first | exact HB.out | apply below_alloc | apply pw_below_drewN | apply below_drew1 | refine below_set ?_ GE105.out) | exact HB.out)⟩
          (try clear HO_3)
          (try clear HO_8)
          (try clear BK105)
          (try clear HB)
          generalize ((w15.setCell ⟨gb105, 0, none⟩ (.int .i64 ((rd_T31 x8_1 x10_1).f0))).setCell ⟨gb105, 1, none⟩ (.int .i64 ((rd_T31 x8_1 x10_1).f1))) = w18 at n0_ n1_ n2_ n3_ ⊢
          have HO_3 := n0_
          have HO_8 := n1_
          have BK105 := n2_
          have HB := n3_
          clear n0_ n1_ n2_ n3_
          have n0_ := Aside0.mk (Kd.R_drew HO_3.out)
          have n1_ := Aside0.mk (Kd.V_drew HO_8.out)
          have n2_ := Aside0.mk (blk_drew BK105.out)
          have n3_ := Aside0.mk (below_drew1 HB.out)
          clear HO_3
          clear HO_8
          clear BK105
          clear HB
          have HO_3 := n0_
          have HO_8 := n1_
          have BK105 := n2_
          have HB := n3_
          clear n0_ n1_ n2_ n3_
          have p106 : 0 ≤ ((ji9) : Int) := of_decide_eq_true (by first | (with_reducible assumption) | assumption)
          have q106 : (ji9) < (x3_1.length : Int) := of_decide_eq_true (by first | (with_reducible assumption) | assumption)
          obtain ⟨ad106, e106, hx106_0, hx106_1⟩ := at_T31 (Kd.R_reads' HO_3.out).2.2 (ji9) p106 q106
          cases e106
          replace p106 := eq_true p106
          replace q106 := eq_true q106
          refine start_ (n := 14) (S := fun w' => w'.cell? ⟨gb105, 0, none⟩ = some (.int .i64 ((rd_T31 x8_1 x10_1).f0)) ∧ w'.cell? ⟨gb105, 1, none⟩ = some (.int .i64 ((rd_T31 x8_1 x10_1).f1)) ∧ w'.cell? (ad106.add (((ji9)).toNat * 2)) = some (.int .i64 ((rd_T31 x3_1 (ji9)).f0)) ∧ w'.cell? ⟨(ad106.add (((ji9)).toNat * 2)).block, (ad106.add (((ji9)).toNat * 2)).off + 1, none⟩ = some (.int .i64 ((rd_T31 x3_1 (ji9)).f1))) (ds := []) #[false, false, false, false, false, false, false, false, false, false, false, false, false, false] (by kernel_rfl) rfl rfl ⟨(blk_cell BK105.out 0).trans rfl, (blk_cell BK105.out 1).trans rfl, hx106_0, hx106_1⟩ (fun hHeld => ?_); refine with_tabW spans_Norm.tab6 spans_Norm.bits6 (fun HT_ HW_ => ?_)
          generalize w18.drew = w19 at HO_3 HO_8 BK105 HB hx106_0 hx106_1 hHeld ⊢
          refine pure_ (i := 0) (N := some 16) (v := ?_) (a' := ?_) #[true, false, false, false, false, false, false, false, false, false, false, false, false, false] rfl rfl (any_of HT_.out (by kernel_rfl)) (fun _ _ _ h => h) (Or.inl ⟨by rfl, ?_⟩) ?_ ?_
          rotate_left
          ·intro w'
           go_simp
           with_reducible rfl
          rotate_left
          ·simp only [Act.put, List.setIfInBounds_toArray, List.set_cons_zero, List.set_cons_succ, i64_w, i32_w]
           rfl
          refine pure_ (i := 1) (N := some 17) (v := ?_) (a' := ?_) #[true, true, false, false, false, false, false, false, false, false, false, false, false, false] rfl rfl (any_of HT_.out (by kernel_rfl)) (fun _ _ _ h => h) (Or.inl ⟨by rfl, ?_⟩) ?_ ?_
          rotate_left
          ·intro w'
           go_simp
           with_reducible rfl
          rotate_left
          ·simp only [Act.put, List.setIfInBounds_toArray, List.set_cons_zero, List.set_cons_succ, i64_w, i32_w]
           rfl
          refine pure_ (i := 2) (N := some 18) (v := ?_) (a' := ?_) #[true, true, true, false, false, false, false, false, false, false, false, false, false, false] rfl rfl (any_of HT_.out (by kernel_rfl)) (fun _ _ _ h => h) (Or.inl ⟨by rfl, ?_⟩) ?_ ?_
          rotate_left
          ·intro w'
           go_simp
           with_reducible rfl
          rotate_left
          ·simp only [Act.put, List.setIfInBounds_toArray, List.set_cons_zero, List.set_cons_succ, i64_w, i32_w]
           rfl
          refine pure_ (i := 3) (N := some 19) (v := ?_) (a' := ?_) #[true, true, true, true, false, false, false, false, false, false, false, false, false, false] rfl rfl (any_of HT_.out (by kernel_rfl)) (fun _ _ _ h => h) (Or.inl ⟨by rfl, ?_⟩) ?_ ?_
          rotate_left
          ·intro w'
           go_simp
           with_reducible rfl
          rotate_left
          ·simp only [Act.put, List.setIfInBounds_toArray, List.set_cons_zero, List.set_cons_succ, i64_w, i32_w]
           rfl
          refine pure_ (i := 5) (N := some 21) (v := ?_) (a' := ?_) #[true, true, true, true, false, true, false, false, false, false, false, false, false, false] rfl rfl (any_of HT_.out (by kernel_rfl)) (fun _ _ _ h => h) (Or.inl ⟨by rfl, ?_⟩) ?_ ?_
          rotate_left
          ·intro w'
           go_simp
           with_reducible rfl
          rotate_left
          ·simp only [Act.put, List.setIfInBounds_toArray, List.set_cons_zero, List.set_cons_succ, i64_w, i32_w]
           rfl
          refine pure_ (i := 6) (N := some 22) (v := ?_) (a' := ?_) #[true, true, true, true, false, true, true, false, false, false, false, false, false, false] rfl rfl (any_of HT_.out (by kernel_rfl)) (fun _ _ _ h => h) (Or.inl ⟨by rfl, ?_⟩) ?_ ?_
          rotate_left
          ·intro w'
           go_simp
           with_reducible rfl
          rotate_left
          ·simp only [Act.put, List.setIfInBounds_toArray, List.set_cons_zero, List.set_cons_succ, i64_w, i32_w]
           rfl
          refine pure_ (i := 7) (N := some 23) (v := ?_) (a' := ?_) #[true, true, true, true, false, true, true, true, false, false, false, false, false, false] rfl rfl (any_of HT_.out (by kernel_rfl)) (fun _ _ _ h => h) (Or.inl ⟨by rfl, ?_⟩) ?_ ?_
          rotate_left
          ·intro w'
           go_simp
           with_reducible rfl
          rotate_left
          ·simp only [Act.put, List.setIfInBounds_toArray, List.set_cons_zero, List.set_cons_succ, i64_w, i32_w]
           rfl
          refine pure_ (i := 8) (N := some 24) (v := ?_) (a' := ?_) #[true, true, true, true, false, true, true, true, true, false, false, false, false, false] rfl rfl (any_of HT_.out (by kernel_rfl)) (fun _ _ _ h => h) (Or.inl ⟨by rfl, ?_⟩) ?_ ?_
          rotate_left
          ·intro w'
           go_simp
           with_reducible rfl
          rotate_left
          ·simp only [Act.put, List.setIfInBounds_toArray, List.set_cons_zero, List.set_cons_succ, i64_w, i32_w]
           rfl
          refine pure_ (i := 9) (N := some 25) (v := ?_) (a' := ?_) #[true, true, true, true, false, true, true, true, true, true, false, false, false, false] rfl rfl (any_of HT_.out (by kernel_rfl)) (fun _ _ _ h => h) (Or.inl ⟨by rfl, ?_⟩) ?_ ?_
          rotate_left
          ·intro w'
           go_simp
           with_reducible rfl
          rotate_left
          ·simp only [Act.put, List.setIfInBounds_toArray, List.set_cons_zero, List.set_cons_succ, i64_w, i32_w]
           rfl
          refine take_ (i := 4) (N := some 20) (v := ?_) (a' := ?_) #[true, true, true, true, true, true, true, true, true, true, false, false, false, false] rfl rfl (take_ofW HT_.out HW_.out (by kernel_rfl)) (fun _ _ _ h => h) (Or.inl ⟨by rfl, ?_⟩) hHeld ?_ ?_
          rotate_left
          ·rintro w' ⟨s0, s1, s2, s3⟩
           go_simp
           with_reducible rfl
          rotate_left
          ·simp only [Act.put, List.setIfInBounds_toArray, List.set_cons_zero, List.set_cons_succ, i64_w, i32_w]
           rfl
          refine take_ (i := 10) (N := some 26) (v := ?_) (a' := ?_) #[true, true, true, true, true, true, true, true, true, true, true, false, false, false] rfl rfl (take_ofW HT_.out HW_.out (by kernel_rfl)) (fun _ _ _ h => h) (Or.inl ⟨by rfl, ?_⟩) hHeld ?_ ?_
          rotate_left
          ·rintro w' ⟨s0, s1, s2, s3⟩
           go_simp
           with_reducible rfl
          rotate_left
          ·simp only [Act.put, List.setIfInBounds_toArray, List.set_cons_zero, List.set_cons_succ, i64_w, i32_w]
           rfl
          refine pure_ (i := 11) (N := some 27) (v := ?_) (a' := ?_) #[true, true, true, true, true, true, true, true, true, true, true, true, false, false] rfl rfl (any_of HT_.out (by kernel_rfl)) (fun _ _ _ h => h) (Or.inl ⟨by rfl, ?_⟩) ?_ ?_
          rotate_left
          ·intro w'
           go_simp
           with_reducible rfl
          rotate_left
          ·simp only [Act.put, List.setIfInBounds_toArray, List.set_cons_zero, List.set_cons_succ, i64_w, i32_w]
           rfl
          refine pure_ (i := 12) (N := some 28) (v := ?_) (a' := ?_) #[true, true, true, true, true, true, true, true, true, true, true, true, true, false] rfl rfl (any_of HT_.out (by kernel_rfl)) (fun _ _ _ h => h) (Or.inl ⟨by rfl, ?_⟩) ?_ ?_
          rotate_left
          ·intro w'
           go_simp
           with_reducible rfl
          rotate_left
          ·simp only [Act.put, List.setIfInBounds_toArray, List.set_cons_zero, List.set_cons_succ, i64_w, i32_w]
           rfl
          refine pure_ (i := 13) (N := some 29) (v := ?_) (a' := ?_) #[true, true, true, true, true, true, true, true, true, true, true, true, true, true] rfl rfl (any_of HT_.out (by kernel_rfl)) (fun _ _ _ h => h) (Or.inl ⟨by rfl, ?_⟩) ?_ ?_
          rotate_left
          ·intro w'
           go_simp
           with_reducible rfl
          rotate_left
          ·simp only [Act.put, List.setIfInBounds_toArray, List.set_cons_zero, List.set_cons_succ, i64_w, i32_w]
           rfl
          refine done_ (done_of HT_.out (by kernel_rfl)) ?_
          try go_wp2
          have n0_ := Aside0.mk (Kd.R_drew HO_3.out)
          have n1_ := Aside0.mk (Kd.V_drew HO_8.out)
          have n2_ := Aside0.mk (blk_drew BK105.out)
          have n3_ := Aside0.mk (below_drew1 HB.out)
          clear HO_3
          clear HO_8
          clear BK105
          clear HB
          have HO_3 := n0_
          have HO_8 := n1_
          have BK105 := n2_
          have HB := n3_
          clear n0_ n1_ n2_ n3_
          have p107 : 0 ≤ ((ji9) : Int) := of_decide_eq_true (by first | (with_reducible assumption) | assumption)
          have q107 : (ji9) < (x3_1.length : Int) := of_decide_eq_true (by first | (with_reducible assumption) | assumption)
          obtain ⟨ad107, e107, hx107_0, hx107_1⟩ := at_T31 (Kd.R_reads' HO_3.out).2.2 (ji9) p107 q107
          obtain rfl : ad106 = ad107 := (by injection e107)
          replace p107 := eq_true p107
          replace q107 := eq_true q107
          have p14 : 0 ≤ ((ji9) : Int) := of_decide_eq_true (by first | (with_reducible assumption) | assumption)
          have q14 : ((ji9) : Int) < ((x3_1.length : Int) : Int) := of_decide_eq_true (by first | (with_reducible assumption) | assumption)
          obtain ⟨go14, co14, eo14, gb14, gl14, cl14, HG14⟩ := Kd.R_form HO_3.out (by omega)
          (first | cases eo14 | (injection eo14 with ea_ en_ ec_; (first | subst ea_ | (injection ea_ with ea_; subst ea_)); subst ec_; clear en_))
          have GB14 := Aside0.mk gb14
          have GG14 := Aside0.mk HG14
          clear gb14 gl14 HG14
          (first | simp only [add_plain] at hx106_0 | skip)
          (first | simp only [add_plain] at hx106_1 | skip)
          (first | simp only [add_plain] at hx107_0 | skip)
          (first | simp only [add_plain] at hx107_1 | skip)
          obtain ⟨ce14, hcl14, hM14, hcc14, hfr14⟩ := Kd.R_elem HO_3.out z31 ((ji9) : Int) p14 q14
          obtain rfl := k31_openM hM14
          have hx14_0 : World.cell? _ ⟨go14, ((ji9) : Int).toNat * 2, none⟩ = some (.int .i64 ((rd_T31 x3_1 (ji9)).f0)) := hcc14 0 _ rfl
          have hx14_1 : World.cell? _ ⟨go14, ((ji9) : Int).toNat * 2 + 1, none⟩ = some (.int .i64 ((rd_T31 x3_1 (ji9)).f1)) := hcc14 1 _ rfl
          have hf14_0 : World.frozen? _ ⟨go14, ((ji9) : Int).toNat * 2, none⟩ = false := hfr14 0
          have hf14_1 : World.frozen? _ ⟨go14, ((ji9) : Int).toNat * 2 + 1, none⟩ = false := hfr14 1
          clear hcl14 hcc14 hfr14 hM14
          replace p14 := eq_true p14
          replace q14 := eq_true q14
          obtain ⟨ce21, hcl21, hM21, hcc21, hfr21⟩ := Kd.R_elem HO_3.out z31 ((ji9) : Int) (of_decide_eq_true (by first | (with_reducible assumption) | assumption)) (by have h_ : ((ji9) : Int) < ((x3_1.length : Int) : Int) := of_decide_eq_true (by first | (with_reducible assumption) | assumption); first | exact h_ | (have e_ := (Kd.R_reads' HO_3.out).1; omega) | simpa using h_)
          obtain rfl := k31_openM hM21
          have HP21 := (Kd.R_seg HO_3.out ((ji9) : Int) (of_decide_eq_true (by first | (with_reducible assumption) | assumption)) (by have h_ : ((ji9) : Int) < ((x3_1.length : Int) : Int) := of_decide_eq_true (by first | (with_reducible assumption) | assumption); first | exact h_ | (have e_ := (Kd.R_reads' HO_3.out).1; omega) | simpa using h_) (seg := [.int .i64 ji13]) (j := 1) hcl21 hcc21 (show 2 ≤ 2 from by decide) (x' := (⟨(rd_T31 x3_1 (ji9)).f0, ji13⟩ : S31)) (k31_mkM _ _ _ (⟨(rd_T31 x3_1 (ji9)).f0, ji13⟩ : S31) ) (fun _ hk => hk)).1
          rw [← Ny108.out] at HP21
          have HQ21 := Aside0.mk HP21
          clear hcl21 hcc21 hfr21 hM21 HP21
          refine start_ (n := 15) (S := fun w' => w'.cell? ⟨gb105, 0, none⟩ = some (.int .i64 ((rd_T31 x8_1 x10_1).f0)) ∧ w'.cell? ⟨gb105, 1, none⟩ = some (.int .i64 ((rd_T31 x8_1 x10_1).f1)) ∧ w'.cell? ⟨go14, ((ji9)).toNat * 2, none⟩ = some (.int .i64 ((rd_T31 x3_1 (ji9)).f0)) ∧ w'.cell? ⟨go14, ((ji9)).toNat * 2 + 1, none⟩ = some (.int .i64 ((rd_T31 x3_1 (ji9)).f1))) (ds := [14]) #[false, false, false, false, false, false, false, false, false, false, false, false, false, false, false] (by kernel_rfl) rfl rfl ⟨(blk_cell BK105.out 0).trans rfl, (blk_cell BK105.out 1).trans rfl, hx107_0, hx107_1⟩ (fun hHeld => ?_); refine with_tabW spans_Norm.tab7 spans_Norm.bits7 (fun HT_ HW_ => ?_)
          generalize w19.drew = w20 at HO_3 HO_8 BK105 HB GG14 HQ21 hf14_0 hf14_1 hx106_0 hx106_1 hx107_0 hx107_1 hx14_0 hx14_1 hHeld ⊢
          refine pure_ (i := 0) (N := some 30) (v := ?_) (a' := ?_) #[true, false, false, false, false, false, false, false, false, false, false, false, false, false, false] rfl rfl (any_of HT_.out (by kernel_rfl)) (fun _ _ _ h => h) (Or.inl ⟨by rfl, ?_⟩) ?_ ?_
          rotate_left
          ·intro w'
           go_simp
           with_reducible rfl
          rotate_left
          ·simp only [Act.put, List.setIfInBounds_toArray, List.set_cons_zero, List.set_cons_succ, i64_w, i32_w]
           rfl
          refine pure_ (i := 1) (N := some 31) (v := ?_) (a' := ?_) #[true, true, false, false, false, false, false, false, false, false, false, false, false, false, false] rfl rfl (any_of HT_.out (by kernel_rfl)) (fun _ _ _ h => h) (Or.inl ⟨by rfl, ?_⟩) ?_ ?_
          rotate_left
          ·intro w'
           go_simp
           with_reducible rfl
          rotate_left
          ·simp only [Act.put, List.setIfInBounds_toArray, List.set_cons_zero, List.set_cons_succ, i64_w, i32_w]
           rfl
          refine pure_ (i := 2) (N := some 32) (v := ?_) (a' := ?_) #[true, true, true, false, false, false, false, false, false, false, false, false, false, false, false] rfl rfl (any_of HT_.out (by kernel_rfl)) (fun _ _ _ h => h) (Or.inl ⟨by rfl, ?_⟩) ?_ ?_
          rotate_left
          ·intro w'
           go_simp
           with_reducible rfl
          rotate_left
          ·simp only [Act.put, List.setIfInBounds_toArray, List.set_cons_zero, List.set_cons_succ, i64_w, i32_w]
           rfl
          refine pure_ (i := 3) (N := some 33) (v := ?_) (a' := ?_) #[true, true, true, true, false, false, false, false, false, false, false, false, false, false, false] rfl rfl (any_of HT_.out (by kernel_rfl)) (fun _ _ _ h => h) (Or.inl ⟨by rfl, ?_⟩) ?_ ?_
          rotate_left
          ·intro w'
           go_simp
           with_reducible rfl
          rotate_left
          ·simp only [Act.put, List.setIfInBounds_toArray, List.set_cons_zero, List.set_cons_succ, i64_w, i32_w]
           rfl
          refine pure_ (i := 4) (N := some 34) (v := ?_) (a' := ?_) #[true, true, true, true, true, false, false, false, false, false, false, false, false, false, false] rfl rfl (any_of HT_.out (by kernel_rfl)) (fun _ _ _ h => h) (Or.inl ⟨by rfl, ?_⟩) ?_ ?_
          rotate_left
          ·intro w'
           go_simp
           with_reducible rfl
          rotate_left
          ·simp only [Act.put, List.setIfInBounds_toArray, List.set_cons_zero, List.set_cons_succ, i64_w, i32_w]
           rfl
          refine pure_ (i := 5) (N := some 35) (v := ?_) (a' := ?_) #[true, true, true, true, true, true, false, false, false, false, false, false, false, false, false] rfl rfl (any_of HT_.out (by kernel_rfl)) (fun _ _ _ h => h) (Or.inl ⟨by rfl, ?_⟩) ?_ ?_
          rotate_left
          ·intro w'
           go_simp
           with_reducible rfl
          rotate_left
          ·simp only [Act.put, List.setIfInBounds_toArray, List.set_cons_zero, List.set_cons_succ, i64_w, i32_w]
           rfl
          refine pure_ (i := 6) (N := some 36) (v := ?_) (a' := ?_) #[true, true, true, true, true, true, true, false, false, false, false, false, false, false, false] rfl rfl (any_of HT_.out (by kernel_rfl)) (fun _ _ _ h => h) (Or.inl ⟨by rfl, ?_⟩) ?_ ?_
          rotate_left
          ·intro w'
           go_simp
           with_reducible rfl
          rotate_left
          ·simp only [Act.put, List.setIfInBounds_toArray, List.set_cons_zero, List.set_cons_succ, i64_w, i32_w]
           rfl
          refine pure_ (i := 7) (N := some 37) (v := ?_) (a' := ?_) #[true, true, true, true, true, true, true, true, false, false, false, false, false, false, false] rfl rfl (any_of HT_.out (by kernel_rfl)) (fun _ _ _ h => h) (Or.inl ⟨by rfl, ?_⟩) ?_ ?_
          rotate_left
          ·intro w'
           go_simp
           with_reducible rfl
          rotate_left
          ·simp only [Act.put, List.setIfInBounds_toArray, List.set_cons_zero, List.set_cons_succ, i64_w, i32_w]
           rfl
          refine pure_ (i := 9) (N := some 39) (v := ?_) (a' := ?_) #[true, true, true, true, true, true, true, true, false, true, false, false, false, false, false] rfl rfl (any_of HT_.out (by kernel_rfl)) (fun _ _ _ h => h) (Or.inl ⟨by rfl, ?_⟩) ?_ ?_
          rotate_left
          ·intro w'
           go_simp
           with_reducible rfl
          rotate_left
          ·simp only [Act.put, List.setIfInBounds_toArray, List.set_cons_zero, List.set_cons_succ, i64_w, i32_w]
           rfl
          refine take_ (i := 8) (N := some 38) (v := ?_) (a' := ?_) #[true, true, true, true, true, true, true, true, true, true, false, false, false, false, false] rfl rfl (take_ofW HT_.out HW_.out (by kernel_rfl)) (fun _ _ _ h => h) (Or.inl ⟨by rfl, ?_⟩) hHeld ?_ ?_
          rotate_left
          ·rintro w' ⟨s0, s1, s2, s3⟩
           go_simp
           with_reducible rfl
          rotate_left
          ·simp only [Act.put, List.setIfInBounds_toArray, List.set_cons_zero, List.set_cons_succ, i64_w, i32_w]
           rfl
          refine take_ (i := 10) (N := some 40) (v := ?_) (a' := ?_) #[true, true, true, true, true, true, true, true, true, true, true, false, false, false, false] rfl rfl (take_ofW HT_.out HW_.out (by kernel_rfl)) (fun _ _ _ h => h) (Or.inl ⟨by rfl, ?_⟩) hHeld ?_ ?_
          rotate_left
          ·rintro w' ⟨s0, s1, s2, s3⟩
           go_simp
           with_reducible rfl
          rotate_left
          ·simp only [Act.put, List.setIfInBounds_toArray, List.set_cons_zero, List.set_cons_succ, i64_w, i32_w]
           rfl
          refine pure_ (i := 11) (N := some 41) (v := ?_) (a' := ?_) #[true, true, true, true, true, true, true, true, true, true, true, true, false, false, false] rfl rfl (any_of HT_.out (by kernel_rfl)) (fun _ _ _ h => h) (Or.inl ⟨by rfl, ?_⟩) ?_ ?_
          rotate_left
          ·intro w'
           go_simp
           with_reducible rfl
          rotate_left
          ·simp only [Act.put, List.setIfInBounds_toArray, List.set_cons_zero, List.set_cons_succ, i64_w, i32_w]
           rfl
          refine pure_ (i := 12) (N := some 42) (v := ?_) (a' := ?_) #[true, true, true, true, true, true, true, true, true, true, true, true, true, false, false] rfl rfl (any_of HT_.out (by kernel_rfl)) (fun _ _ _ h => h) (Or.inl ⟨by rfl, ?_⟩) ?_ ?_
          rotate_left
          ·intro w'
           go_simp
           with_reducible rfl
          rotate_left
          ·simp only [Act.put, List.setIfInBounds_toArray, List.set_cons_zero, List.set_cons_succ, i64_w, i32_w]
           rfl
          refine pure_ (i := 13) (N := some 43) (v := ?_) (a' := ?_) #[true, true, true, true, true, true, true, true, true, true, true, true, true, true, false] rfl rfl (any_of HT_.out (by kernel_rfl)) (fun _ _ _ h => h) (Or.inl ⟨by rfl, ?_⟩) ?_ ?_
          rotate_left
          ·intro w'
           go_simp
           with_reducible rfl
          rotate_left
          ·simp only [Act.put, List.setIfInBounds_toArray, List.set_cons_zero, List.set_cons_succ, i64_w, i32_w]
           rfl
          refine last_ (i := 14) (N := none) #[true, true, true, true, true, true, true, true, true, true, true, true, true, true, true] rfl rfl (one_of HT_.out (by kernel_rfl)) (by decide) (fun K hK => ?_)
          refine skip_ (w1 := ?_) (by rfl) rfl ?_ ?_
          rotate_left
          ·go_simp
           rfl
          refine hK.out _ _ ?_
          clear hK K
          refine done_ (done_of HT_.out (by kernel_rfl)) ?_
          try go_wp2
          (try simp only [← hl8_1])
          go_roundg k1
          case measure => have := HK1.out; omega
          case rel => exact ⟨(y108), (x8_1), (wrap64 (x10_1 + 1)), (by first | rfl | (simp; done) | (simp [*]; done)), H', ⟨by have := HK1.out; omega⟩, ⟨by (try simp only [hl8_1]); (with_reducible repeat (first | apply Kd.R_alloc | apply Kd.R_drewN | apply Kd.R_drew)); exact Kd.R_mono HQ21.out (fun _ hk => trivial)⟩, ⟨by (try simp only [hl8_1]); (with_reducible repeat (first | apply Kd.V_alloc | apply Kd.V_drewN | apply Kd.V_drew)); exact Kd.V_mono (Kd.V_far (p := ⟨go14, ((ji9) : Int).toNat * 2 + 1, none⟩) (Kd.V_mono HO_8.out (fun k_ hk => (⟨hk, fun e_ => hk.1 (by rw [e_]; rfl)⟩ : _ ∧ k_ ≠ go14))) (fun _ hk => hk.2) (.int .i64 ji13)) (fun _ hk => hk.1.1)⟩, ⟨by repeat (first | (with_reducible first | exact HB.out | apply below_alloc | apply pw_below_drewN | apply below_drew1 | refine below_set ?_ GB14.out | refine below_set ?_ GE105.out) | exact HB.out)⟩⟩
         ·rw [if_neg c12] at H
          have c12b0 : decide (((rd_T31 x8_1 x10_1).f0) ≤ (wrap64 (((rd_T31 x3_1 (ji9)).f1) + 1))) = false := decide_eq_false c12
          clear c12
          by_cases c22 : x3_1.length < 8796093022208
          ·rw [if_pos c22] at H
           have LMc22 := Aside0.mk c22
           clear c22
           obtain ⟨y109, hy109⟩ : ∃ y_ : List (S31), y_ = (x3_1 ++ [(⟨(rd_T31 x8_1 x10_1).f0, (rd_T31 x8_1 x10_1).f1⟩ : S31)]) := ⟨_, rfl⟩
           replace H : (spans_Norm.l0 k1 y109 x8_1 (t101.length : Int) (wrap64 (x10_1 + 1))) = some r := by first | (rw [hy109]; with_reducible exact H) | (have H2_ := (Option.bind_some _ _).symm.trans H; rw [hy109]; with_reducible exact H2_) | (have H2_ := (Option.bind_some _ _).symm.trans H; with_reducible exact H2_) | with_reducible exact H | (rw [hy109]; exact H) | exact H
           have Ny109 := Aside0.mk hy109
           clear hy109
           have H' := Aside0.mk H
           clear H
           have p104 : 0 ≤ (x10_1 : Int) := of_decide_eq_true (by first | (with_reducible assumption) | assumption)
           have q104 : x10_1 < (x8_1.length : Int) := of_decide_eq_true (by first | (with_reducible assumption) | assumption)
           obtain ⟨ad104, e104, hx104_0, hx104_1⟩ := at_T31 (Kd.V_reads' HO_8.out).2.2 x10_1 p104 q104
           cases e104
           replace p104 := eq_true p104
           replace q104 := eq_true q104
           try go_wp2_with (first | ((with_reducible refine gate_dst (N := 5) rfl ?_); refine box_event ?hg (N := 5) ?hd (cs := #[.int .i64 0, .int .i64 0]) (t := 31) ?hr ?_; (case hd => rfl); (case hg => rfl); (case hr => first | (go_simp; done) | (go_simp; rfl)); intro gb105 hg w23 hbox hb; have n0_ := Aside0.mk (Kd.R_below (Kd.R_elderB (by (with_reducible repeat (first | apply Kd.R_alloc | apply Kd.R_drewN | apply Kd.R_drew)); exact HO_3.out) gb105 (Nat.le_of_eq hg.symm)) hb); have n1_ := Aside0.mk (Kd.V_below (Kd.V_elderB (by (with_reducible repeat (first | apply Kd.V_alloc | apply Kd.V_drewN | apply Kd.V_drew)); exact HO_8.out) gb105 (Nat.le_of_eq hg.symm)) hb); have n2_ := Aside0.mk (below_step (by repeat (first | (with_reducible first | exact HB.out | apply below_alloc | apply pw_below_drewN | apply below_drew1) | exact HB.out)) hb); have n3_ := Aside0.mk (hbox); have n4_ := Aside0.mk ((by rw [hg]; exact (below_size (by repeat (first | (with_reducible first | exact HB.out | apply below_alloc | apply pw_below_drewN | apply below_drew1) | exact HB.out))) : w.heap.size ≤ gb105)); have n5_ := Aside0.mk ((by rw [hg]; exact (below_size (by repeat (first | (with_reducible first | exact HB.out | apply below_alloc | apply pw_below_drewN | apply below_drew1) | exact HB.out))) : w.heap.size ≤ gb105)); clear HO_3; clear HO_8; clear HB; have HO_3 := n0_; have HO_8 := n1_; have HB := n2_; have BK105 := n3_; have GW105 := n4_; have GE105 := n5_; clear n0_ n1_ n2_ n3_ n4_ n5_; clear hb hbox hg; have hcz24_0 : w23.cell? ⟨gb105, 0, none⟩ = some (.int .i64 0) := (blk_cell BK105.out 0).trans rfl; have hcz24_1 : w23.cell? ⟨gb105, 1, none⟩ = some (.int .i64 0) := (blk_cell BK105.out 1).trans rfl; have hfz24_0 := blk_frozen BK105.out 0; have hfz24_1 := blk_frozen BK105.out 1; obtain ⟨Ao25, co25, eo25⟩ := Kd.R_slice HO_3.out; subst eo25))
           have n0_ : Aside0 (Kd.R k31 31 ((w23.setCell ⟨gb105, 0, none⟩ (.int .i64 ((rd_T31 x8_1 x10_1).f0))).setCell ⟨gb105, 1, none⟩ (.int .i64 ((rd_T31 x8_1 x10_1).f1))) w.heap.size (fun k_ => k_ ≠ gb105) (.slice Ao25 x3_1.length co25) x3_1) := ⟨by (with_reducible repeat (first | apply Kd.R_alloc | apply Kd.R_drewN | apply Kd.R_drew)); exact Kd.R_mono (Kd.R_far (p := ⟨gb105, 1, none⟩) (Kd.R_far (p := ⟨gb105, 0, none⟩) (Kd.R_mono HO_3.out (fun k_ hk => (⟨hk, hk.2⟩ : _ ∧ k_ ≠ gb105))) (fun _ hk => hk.2) (.int .i64 ((rd_T31 x8_1 x10_1).f0))) (fun _ hk => hk.2) (.int .i64 ((rd_T31 x8_1 x10_1).f1))) (fun _ hk => hk.1.2)⟩
           have n1_ : Aside0 (Kd.V k31 31 ((w23.setCell ⟨gb105, 0, none⟩ (.int .i64 ((rd_T31 x8_1 x10_1).f0))).setCell ⟨gb105, 1, none⟩ (.int .i64 ((rd_T31 x8_1 x10_1).f1))) w.heap.size (fun k_ => some k_ ≠ (.slice Ao25 x3_1.length co25 : Value).ownBlock ∧ k_ ≠ gb105) (.slice (some ad104) x8_1.length co4) x8_1) := ⟨by (with_reducible repeat (first | apply Kd.V_alloc | apply Kd.V_drewN | apply Kd.V_drew)); exact Kd.V_mono (Kd.V_far (p := ⟨gb105, 1, none⟩) (Kd.V_far (p := ⟨gb105, 0, none⟩) (Kd.V_mono HO_8.out (fun k_ hk => (⟨hk, hk.2⟩ : _ ∧ k_ ≠ gb105))) (fun _ hk => hk.2) (.int .i64 ((rd_T31 x8_1 x10_1).f0))) (fun _ hk => hk.2) (.int .i64 ((rd_T31 x8_1 x10_1).f1))) (fun _ hk => ⟨hk.1.1, hk.1.2⟩)⟩
           have n2_ : Aside0 (((w23.setCell ⟨gb105, 0, none⟩ (.int .i64 ((rd_T31 x8_1 x10_1).f0))).setCell ⟨gb105, 1, none⟩ (.int .i64 ((rd_T31 x8_1 x10_1).f1))).heap[gb105]? = some (.cells #[.int .i64 ((rd_T31 x8_1 x10_1).f0), .int .i64 ((rd_T31 x8_1 x10_1).f1)] 31 (0, 0))) := ⟨by (with_reducible repeat (first | refine blk_drewN ?_ _ | refine blk_drew ?_ | refine blk_alloc ?_ _)); refine blk_put (cs := #[.int .i64 ((rd_T31 x8_1 x10_1).f0), .int .i64 0]) ?_ 1 _ rfl; (with_reducible repeat (first | refine blk_drewN ?_ _ | refine blk_drew ?_ | refine blk_alloc ?_ _)); refine blk_put (cs := #[.int .i64 0, .int .i64 0]) ?_ 0 _ rfl; (with_reducible repeat (first | refine blk_drewN ?_ _ | refine blk_drew ?_ | refine blk_alloc ?_ _)); exact BK105.out⟩
           have n3_ : Aside0 (Below w.heap.size w ((w23.setCell ⟨gb105, 0, none⟩ (.int .i64 ((rd_T31 x8_1 x10_1).f0))).setCell ⟨gb105, 1, none⟩ (.int .i64 ((rd_T31 x8_1 x10_1).f1)))) := ⟨by repeat (first | (with_reducible first | exact HB.out | apply below_alloc | apply pw_below_drewN | apply below_drew1 | refine below_set ?_ GE105.out) | exact HB.out)⟩
           (try clear HO_3)
           (try clear HO_8)
           (try clear BK105)
           (try clear HB)
           generalize ((w23.setCell ⟨gb105, 0, none⟩ (.int .i64 ((rd_T31 x8_1 x10_1).f0))).setCell ⟨gb105, 1, none⟩ (.int .i64 ((rd_T31 x8_1 x10_1).f1))) = w26 at n0_ n1_ n2_ n3_ ⊢
           have HO_3 := n0_
           have HO_8 := n1_
           have BK105 := n2_
           have HB := n3_
           clear n0_ n1_ n2_ n3_
           have n0_ := Aside0.mk (Kd.R_drew HO_3.out)
           have n1_ := Aside0.mk (Kd.V_drew HO_8.out)
           have n2_ := Aside0.mk (blk_drew BK105.out)
           have n3_ := Aside0.mk (below_drew1 HB.out)
           clear HO_3
           clear HO_8
           clear BK105
           clear HB
           have HO_3 := n0_
           have HO_8 := n1_
           have BK105 := n2_
           have HB := n3_
           clear n0_ n1_ n2_ n3_
           have p106 : 0 ≤ ((ji9) : Int) := of_decide_eq_true (by first | (with_reducible assumption) | assumption)
           have q106 : (ji9) < (x3_1.length : Int) := of_decide_eq_true (by first | (with_reducible assumption) | assumption)
           obtain ⟨ad106, e106, hx106_0, hx106_1⟩ := at_T31 (Kd.R_reads' HO_3.out).2.2 (ji9) p106 q106
           cases e106
           replace p106 := eq_true p106
           replace q106 := eq_true q106
           refine start_ (n := 14) (S := fun w' => w'.cell? ⟨gb105, 0, none⟩ = some (.int .i64 ((rd_T31 x8_1 x10_1).f0)) ∧ w'.cell? ⟨gb105, 1, none⟩ = some (.int .i64 ((rd_T31 x8_1 x10_1).f1)) ∧ w'.cell? (ad106.add (((ji9)).toNat * 2)) = some (.int .i64 ((rd_T31 x3_1 (ji9)).f0)) ∧ w'.cell? ⟨(ad106.add (((ji9)).toNat * 2)).block, (ad106.add (((ji9)).toNat * 2)).off + 1, none⟩ = some (.int .i64 ((rd_T31 x3_1 (ji9)).f1))) (ds := []) #[false, false, false, false, false, false, false, false, false, false, false, false, false, false] (by kernel_rfl) rfl rfl ⟨(blk_cell BK105.out 0).trans rfl, (blk_cell BK105.out 1).trans rfl, hx106_0, hx106_1⟩ (fun hHeld => ?_); refine with_tabW spans_Norm.tab6 spans_Norm.bits6 (fun HT_ HW_ => ?_)
           generalize w26.drew = w27 at HO_3 HO_8 BK105 HB hx106_0 hx106_1 hHeld ⊢
           refine pure_ (i := 0) (N := some 16) (v := ?_) (a' := ?_) #[true, false, false, false, false, false, false, false, false, false, false, false, false, false] rfl rfl (any_of HT_.out (by kernel_rfl)) (fun _ _ _ h => h) (Or.inl ⟨by rfl, ?_⟩) ?_ ?_
           rotate_left
           ·intro w'
            go_simp
            with_reducible rfl
           rotate_left
           ·simp only [Act.put, List.setIfInBounds_toArray, List.set_cons_zero, List.set_cons_succ, i64_w, i32_w]
            rfl
           refine pure_ (i := 1) (N := some 17) (v := ?_) (a' := ?_) #[true, true, false, false, false, false, false, false, false, false, false, false, false, false] rfl rfl (any_of HT_.out (by kernel_rfl)) (fun _ _ _ h => h) (Or.inl ⟨by rfl, ?_⟩) ?_ ?_
           rotate_left
           ·intro w'
            go_simp
            with_reducible rfl
           rotate_left
           ·simp only [Act.put, List.setIfInBounds_toArray, List.set_cons_zero, List.set_cons_succ, i64_w, i32_w]
            rfl
           refine pure_ (i := 2) (N := some 18) (v := ?_) (a' := ?_) #[true, true, true, false, false, false, false, false, false, false, false, false, false, false] rfl rfl (any_of HT_.out (by kernel_rfl)) (fun _ _ _ h => h) (Or.inl ⟨by rfl, ?_⟩) ?_ ?_
           rotate_left
           ·intro w'
            go_simp
            with_reducible rfl
           rotate_left
           ·simp only [Act.put, List.setIfInBounds_toArray, List.set_cons_zero, List.set_cons_succ, i64_w, i32_w]
            rfl
           refine pure_ (i := 3) (N := some 19) (v := ?_) (a' := ?_) #[true, true, true, true, false, false, false, false, false, false, false, false, false, false] rfl rfl (any_of HT_.out (by kernel_rfl)) (fun _ _ _ h => h) (Or.inl ⟨by rfl, ?_⟩) ?_ ?_
           rotate_left
           ·intro w'
            go_simp
            with_reducible rfl
           rotate_left
           ·simp only [Act.put, List.setIfInBounds_toArray, List.set_cons_zero, List.set_cons_succ, i64_w, i32_w]
            rfl
           refine pure_ (i := 5) (N := some 21) (v := ?_) (a' := ?_) #[true, true, true, true, false, true, false, false, false, false, false, false, false, false] rfl rfl (any_of HT_.out (by kernel_rfl)) (fun _ _ _ h => h) (Or.inl ⟨by rfl, ?_⟩) ?_ ?_
           rotate_left
           ·intro w'
            go_simp
            with_reducible rfl
           rotate_left
           ·simp only [Act.put, List.setIfInBounds_toArray, List.set_cons_zero, List.set_cons_succ, i64_w, i32_w]
            rfl
           refine pure_ (i := 6) (N := some 22) (v := ?_) (a' := ?_) #[true, true, true, true, false, true, true, false, false, false, false, false, false, false] rfl rfl (any_of HT_.out (by kernel_rfl)) (fun _ _ _ h => h) (Or.inl ⟨by rfl, ?_⟩) ?_ ?_
           rotate_left
           ·intro w'
            go_simp
            with_reducible rfl
           rotate_left
           ·simp only [Act.put, List.setIfInBounds_toArray, List.set_cons_zero, List.set_cons_succ, i64_w, i32_w]
            rfl
           refine pure_ (i := 7) (N := some 23) (v := ?_) (a' := ?_) #[true, true, true, true, false, true, true, true, false, false, false, false, false, false] rfl rfl (any_of HT_.out (by kernel_rfl)) (fun _ _ _ h => h) (Or.inl ⟨by rfl, ?_⟩) ?_ ?_
           rotate_left
           ·intro w'
            go_simp
            with_reducible rfl
           rotate_left
           ·simp only [Act.put, List.setIfInBounds_toArray, List.set_cons_zero, List.set_cons_succ, i64_w, i32_w]
            rfl
           refine pure_ (i := 8) (N := some 24) (v := ?_) (a' := ?_) #[true, true, true, true, false, true, true, true, true, false, false, false, false, false] rfl rfl (any_of HT_.out (by kernel_rfl)) (fun _ _ _ h => h) (Or.inl ⟨by rfl, ?_⟩) ?_ ?_
           rotate_left
           ·intro w'
            go_simp
            with_reducible rfl
           rotate_left
           ·simp only [Act.put, List.setIfInBounds_toArray, List.set_cons_zero, List.set_cons_succ, i64_w, i32_w]
            rfl
           refine pure_ (i := 9) (N := some 25) (v := ?_) (a' := ?_) #[true, true, true, true, false, true, true, true, true, true, false, false, false, false] rfl rfl (any_of HT_.out (by kernel_rfl)) (fun _ _ _ h => h) (Or.inl ⟨by rfl, ?_⟩) ?_ ?_
           rotate_left
           ·intro w'
            go_simp
            with_reducible rfl
           rotate_left
           ·simp only [Act.put, List.setIfInBounds_toArray, List.set_cons_zero, List.set_cons_succ, i64_w, i32_w]
            rfl
           refine take_ (i := 4) (N := some 20) (v := ?_) (a' := ?_) #[true, true, true, true, true, true, true, true, true, true, false, false, false, false] rfl rfl (take_ofW HT_.out HW_.out (by kernel_rfl)) (fun _ _ _ h => h) (Or.inl ⟨by rfl, ?_⟩) hHeld ?_ ?_
           rotate_left
           ·rintro w' ⟨s0, s1, s2, s3⟩
            go_simp
            with_reducible rfl
           rotate_left
           ·simp only [Act.put, List.setIfInBounds_toArray, List.set_cons_zero, List.set_cons_succ, i64_w, i32_w]
            rfl
           refine take_ (i := 10) (N := some 26) (v := ?_) (a' := ?_) #[true, true, true, true, true, true, true, true, true, true, true, false, false, false] rfl rfl (take_ofW HT_.out HW_.out (by kernel_rfl)) (fun _ _ _ h => h) (Or.inl ⟨by rfl, ?_⟩) hHeld ?_ ?_
           rotate_left
           ·rintro w' ⟨s0, s1, s2, s3⟩
            go_simp
            with_reducible rfl
           rotate_left
           ·simp only [Act.put, List.setIfInBounds_toArray, List.set_cons_zero, List.set_cons_succ, i64_w, i32_w]
            rfl
           refine pure_ (i := 11) (N := some 27) (v := ?_) (a' := ?_) #[true, true, true, true, true, true, true, true, true, true, true, true, false, false] rfl rfl (any_of HT_.out (by kernel_rfl)) (fun _ _ _ h => h) (Or.inl ⟨by rfl, ?_⟩) ?_ ?_
           rotate_left
           ·intro w'
            go_simp
            with_reducible rfl
           rotate_left
           ·simp only [Act.put, List.setIfInBounds_toArray, List.set_cons_zero, List.set_cons_succ, i64_w, i32_w]
            rfl
           refine pure_ (i := 12) (N := some 28) (v := ?_) (a' := ?_) #[true, true, true, true, true, true, true, true, true, true, true, true, true, false] rfl rfl (any_of HT_.out (by kernel_rfl)) (fun _ _ _ h => h) (Or.inl ⟨by rfl, ?_⟩) ?_ ?_
           rotate_left
           ·intro w'
            go_simp
            with_reducible rfl
           rotate_left
           ·simp only [Act.put, List.setIfInBounds_toArray, List.set_cons_zero, List.set_cons_succ, i64_w, i32_w]
            rfl
           refine pure_ (i := 13) (N := some 29) (v := ?_) (a' := ?_) #[true, true, true, true, true, true, true, true, true, true, true, true, true, true] rfl rfl (any_of HT_.out (by kernel_rfl)) (fun _ _ _ h => h) (Or.inl ⟨by rfl, ?_⟩) ?_ ?_
           rotate_left
           ·intro w'
            go_simp
            with_reducible rfl
           rotate_left
           ·simp only [Act.put, List.setIfInBounds_toArray, List.set_cons_zero, List.set_cons_succ, i64_w, i32_w]
            rfl
           refine done_ (done_of HT_.out (by kernel_rfl)) ?_
           have hcz28_0 : w27.cell? ⟨gb105, 0, none⟩ = some (.int .i64 ((rd_T31 x8_1 x10_1).f0)) := (blk_cell BK105.out 0).trans rfl
           have hcz28_1 : w27.cell? ⟨gb105, 1, none⟩ = some (.int .i64 ((rd_T31 x8_1 x10_1).f1)) := (blk_cell BK105.out 1).trans rfl
           have hfz28_0 := blk_frozen BK105.out 0
           have hfz28_1 := blk_frozen BK105.out 1
           try go_wp2_with (first | ((with_reducible refine gate_builtin (b := .append) (xs := #[.tmp 44, .tmp 46]) rfl ?_); at_builtin; refine Kd.R_append k31 (w0 := w) w.heap.size rfl (.tmp 44) (.tmp 46) 23 31 (.agg #[(.int .i64 0), (.int .i64 0)]) 16 rfl Tryd.underlying23 info31 rfl (by decide) (by omega) (.slice (some ad106) x3_1.length co25) x3_1 (⟨(rd_T31 x8_1 x10_1).f0, (rd_T31 x8_1 x10_1).f1⟩ : S31) [.int .i64 ((rd_T31 x8_1 x10_1).f0), .int .i64 ((rd_T31 x8_1 x10_1).f1)] (fun k_ => k_ ≠ gb105) (fun _ => False) rfl rfl ?aP (fun _ hk => hk.elim) ?aF ?aO ?aB ?aS ?aL ?_; (case aP => exact k31_mkM _ _ _ (⟨(rd_T31 x8_1 x10_1).f0, (rd_T31 x8_1 x10_1).f1⟩ : S31)); (case aB => exact (by repeat (first | (with_reducible first | exact HB.out | apply below_alloc | apply pw_below_drewN | apply below_drew1 | refine below_set ?_ GE105.out) | exact HB.out))); (case aF => exact (fun k_ hk => Kd.freshB (g := gb105) (o := .cells #[.int .i64 ((rd_T31 x8_1 x10_1).f0), .int .i64 ((rd_T31 x8_1 x10_1).f1)] 31 (0, 0)) (by (with_reducible repeat (first | refine blk_drewN ?_ _ | refine blk_drew ?_ | refine blk_alloc ?_ _)); exact BK105.out) k_ hk)); (case aO => exact (by (with_reducible repeat (first | apply Kd.R_alloc | apply Kd.R_drewN | apply Kd.R_drew)); exact HO_3.out)); (case aS => exact (below_size (by repeat (first | (with_reducible first | exact HB.out | apply below_alloc | apply pw_below_drewN | apply below_drew1 | refine below_set ?_ GE105.out) | exact HB.out)))); (case aL => have := LMc22.out; omega); intro v110 w29 ho hb hg hat; rw [← Ny109.out] at ho; have n0_ := Aside0.mk (Kd.V_afterv (ok := (fun k_ => k_ ≠ gb105)) (by (with_reducible repeat (first | apply Kd.V_alloc | apply Kd.V_drewN | apply Kd.V_drew)); exact Kd.V_mono HO_8.out (fun _ hk => ⟨hk.2, hk.1⟩)) hg hat); have n1_ := Aside0.mk (blk_grown (g := gb105) (o := .cells #[.int .i64 ((rd_T31 x8_1 x10_1).f0), .int .i64 ((rd_T31 x8_1 x10_1).f1)] 31 (0, 0)) (by (with_reducible repeat (first | refine blk_drewN ?_ _ | refine blk_drew ?_ | refine blk_alloc ?_ _)); exact BK105.out) hg (Kd.R_away HO_3.out (fun _ hk => hk))); have n2_ := Aside0.mk (hb); have n3_ := Aside0.mk (ho); clear HO_8; clear BK105; clear HB; clear HO_3; have HO_8 := n0_; have BK105 := n1_; have HB := n2_; have HO111 := n3_; clear n0_ n1_ n2_ n3_; clear ho hb hg hat))
           (try simp only [← hl8_1])
           go_roundg k1
           case measure => have := HK1.out; omega
           case rel => exact ⟨(y109), (x8_1), (wrap64 (x10_1 + 1)), (by first | rfl | (simp; done) | (simp [*]; done)), H', ⟨by have := HK1.out; omega⟩, ⟨by (try simp only [hl8_1]); (with_reducible repeat (first | apply Kd.R_alloc | apply Kd.R_drewN | apply Kd.R_drew)); exact Kd.R_mono HO111.out (fun _ hk => trivial)⟩, ⟨by (try simp only [hl8_1]); (with_reducible repeat (first | apply Kd.V_alloc | apply Kd.V_drewN | apply Kd.V_drew)); exact Kd.V_mono HO_8.out (fun _ hk => hk.2)⟩, ⟨by repeat (first | (with_reducible first | exact HB.out | apply below_alloc | apply pw_below_drewN | apply below_drew1 | refine below_set ?_ GE105.out) | exact HB.out)⟩⟩
          ·rw [if_neg c22] at H
           exact absurd H (by simp)
        ·rw [if_neg c11] at H
         exact absurd H (by simp)
       ·rw [if_neg c10] at H
        exact absurd H (by simp)
      ·rw [if_neg c8] at H
       have c8b0 : decide (0 < (x3_1.length : Int)) = false := decide_eq_false c8
       have c8b1 : decide (0 < x3_1.length) = false := decide_eq_false (by omega)
       clear c8
       by_cases c30 : x3_1.length < 8796093022208
       ·rw [if_pos c30] at H
        have LMc30 := Aside0.mk c30
        clear c30
        obtain ⟨y112, hy112⟩ : ∃ y_ : List (S31), y_ = (x3_1 ++ [(⟨(rd_T31 x8_1 x10_1).f0, (rd_T31 x8_1 x10_1).f1⟩ : S31)]) := ⟨_, rfl⟩
        replace H : (spans_Norm.l0 k1 y112 x8_1 (t101.length : Int) (wrap64 (x10_1 + 1))) = some r := by first | (rw [hy112]; with_reducible exact H) | (have H2_ := (Option.bind_some _ _).symm.trans H; rw [hy112]; with_reducible exact H2_) | (have H2_ := (Option.bind_some _ _).symm.trans H; with_reducible exact H2_) | with_reducible exact H | (rw [hy112]; exact H) | exact H
        have Ny112 := Aside0.mk hy112
        clear hy112
        have H' := Aside0.mk H
        clear H
        have p104 : 0 ≤ (x10_1 : Int) := of_decide_eq_true (by first | (with_reducible assumption) | assumption)
        have q104 : x10_1 < (x8_1.length : Int) := of_decide_eq_true (by first | (with_reducible assumption) | assumption)
        obtain ⟨ad104, e104, hx104_0, hx104_1⟩ := at_T31 (Kd.V_reads' HO_8.out).2.2 x10_1 p104 q104
        cases e104
        replace p104 := eq_true p104
        replace q104 := eq_true q104
        try go_wp2_with (first | ((with_reducible refine gate_dst (N := 5) rfl ?_); refine box_event ?hg (N := 5) ?hd (cs := #[.int .i64 0, .int .i64 0]) (t := 31) ?hr ?_; (case hd => rfl); (case hg => rfl); (case hr => first | (go_simp; done) | (go_simp; rfl)); intro gb105 hg w31 hbox hb; have n0_ := Aside0.mk (Kd.R_below (Kd.R_elderB (by (with_reducible repeat (first | apply Kd.R_alloc | apply Kd.R_drewN | apply Kd.R_drew)); exact HO_3.out) gb105 (Nat.le_of_eq hg.symm)) hb); have n1_ := Aside0.mk (Kd.V_below (Kd.V_elderB (by (with_reducible repeat (first | apply Kd.V_alloc | apply Kd.V_drewN | apply Kd.V_drew)); exact HO_8.out) gb105 (Nat.le_of_eq hg.symm)) hb); have n2_ := Aside0.mk (below_step (by repeat (first | (with_reducible first | exact HB.out | apply below_alloc | apply pw_below_drewN | apply below_drew1) | exact HB.out)) hb); have n3_ := Aside0.mk (hbox); have n4_ := Aside0.mk ((by rw [hg]; exact (below_size (by repeat (first | (with_reducible first | exact HB.out | apply below_alloc | apply pw_below_drewN | apply below_drew1) | exact HB.out))) : w.heap.size ≤ gb105)); have n5_ := Aside0.mk ((by rw [hg]; exact (below_size (by repeat (first | (with_reducible first | exact HB.out | apply below_alloc | apply pw_below_drewN | apply below_drew1) | exact HB.out))) : w.heap.size ≤ gb105)); clear HO_3; clear HO_8; clear HB; have HO_3 := n0_; have HO_8 := n1_; have HB := n2_; have BK105 := n3_; have GW105 := n4_; have GE105 := n5_; clear n0_ n1_ n2_ n3_ n4_ n5_; clear hb hbox hg; have hcz32_0 : w31.cell? ⟨gb105, 0, none⟩ = some (.int .i64 0) := (blk_cell BK105.out 0).trans rfl; have hcz32_1 : w31.cell? ⟨gb105, 1, none⟩ = some (.int .i64 0) := (blk_cell BK105.out 1).trans rfl; have hfz32_0 := blk_frozen BK105.out 0; have hfz32_1 := blk_frozen BK105.out 1; obtain ⟨Ao33, co33, eo33⟩ := Kd.R_slice HO_3.out; subst eo33))
        have n0_ : Aside0 (Kd.R k31 31 ((w31.setCell ⟨gb105, 0, none⟩ (.int .i64 ((rd_T31 x8_1 x10_1).f0))).setCell ⟨gb105, 1, none⟩ (.int .i64 ((rd_T31 x8_1 x10_1).f1))) w.heap.size (fun k_ => k_ ≠ gb105) (.slice Ao33 x3_1.length co33) x3_1) := ⟨by (with_reducible repeat (first | apply Kd.R_alloc | apply Kd.R_drewN | apply Kd.R_drew)); exact Kd.R_mono (Kd.R_far (p := ⟨gb105, 1, none⟩) (Kd.R_far (p := ⟨gb105, 0, none⟩) (Kd.R_mono HO_3.out (fun k_ hk => (⟨hk, hk.2⟩ : _ ∧ k_ ≠ gb105))) (fun _ hk => hk.2) (.int .i64 ((rd_T31 x8_1 x10_1).f0))) (fun _ hk => hk.2) (.int .i64 ((rd_T31 x8_1 x10_1).f1))) (fun _ hk => hk.1.2)⟩
        have n1_ : Aside0 (Kd.V k31 31 ((w31.setCell ⟨gb105, 0, none⟩ (.int .i64 ((rd_T31 x8_1 x10_1).f0))).setCell ⟨gb105, 1, none⟩ (.int .i64 ((rd_T31 x8_1 x10_1).f1))) w.heap.size (fun k_ => some k_ ≠ (.slice Ao33 x3_1.length co33 : Value).ownBlock ∧ k_ ≠ gb105) (.slice (some ad104) x8_1.length co4) x8_1) := ⟨by (with_reducible repeat (first | apply Kd.V_alloc | apply Kd.V_drewN | apply Kd.V_drew)); exact Kd.V_mono (Kd.V_far (p := ⟨gb105, 1, none⟩) (Kd.V_far (p := ⟨gb105, 0, none⟩) (Kd.V_mono HO_8.out (fun k_ hk => (⟨hk, hk.2⟩ : _ ∧ k_ ≠ gb105))) (fun _ hk => hk.2) (.int .i64 ((rd_T31 x8_1 x10_1).f0))) (fun _ hk => hk.2) (.int .i64 ((rd_T31 x8_1 x10_1).f1))) (fun _ hk => ⟨hk.1.1, hk.1.2⟩)⟩
        have n2_ : Aside0 (((w31.setCell ⟨gb105, 0, none⟩ (.int .i64 ((rd_T31 x8_1 x10_1).f0))).setCell ⟨gb105, 1, none⟩ (.int .i64 ((rd_T31 x8_1 x10_1).f1))).heap[gb105]? = some (.cells #[.int .i64 ((rd_T31 x8_1 x10_1).f0), .int .i64 ((rd_T31 x8_1 x10_1).f1)] 31 (0, 0))) := ⟨by (with_reducible repeat (first | refine blk_drewN ?_ _ | refine blk_drew ?_ | refine blk_alloc ?_ _)); refine blk_put (cs := #[.int .i64 ((rd_T31 x8_1 x10_1).f0), .int .i64 0]) ?_ 1 _ rfl; (with_reducible repeat (first | refine blk_drewN ?_ _ | refine blk_drew ?_ | refine blk_alloc ?_ _)); refine blk_put (cs := #[.int .i64 0, .int .i64 0]) ?_ 0 _ rfl; (with_reducible repeat (first | refine blk_drewN ?_ _ | refine blk_drew ?_ | refine blk_alloc ?_ _)); exact BK105.out⟩
        have n3_ : Aside0 (Below w.heap.size w ((w31.setCell ⟨gb105, 0, none⟩ (.int .i64 ((rd_T31 x8_1 x10_1).f0))).setCell ⟨gb105, 1, none⟩ (.int .i64 ((rd_T31 x8_1 x10_1).f1)))) := ⟨by repeat (first | (with_reducible first | exact HB.out | apply below_alloc | apply pw_below_drewN | apply below_drew1 | refine below_set ?_ GE105.out) | exact HB.out)⟩
        (try clear HO_3)
        (try clear HO_8)
        (try clear BK105)
        (try clear HB)
        generalize ((w31.setCell ⟨gb105, 0, none⟩ (.int .i64 ((rd_T31 x8_1 x10_1).f0))).setCell ⟨gb105, 1, none⟩ (.int .i64 ((rd_T31 x8_1 x10_1).f1))) = w34 at n0_ n1_ n2_ n3_ ⊢
        have HO_3 := n0_
        have HO_8 := n1_
        have BK105 := n2_
        have HB := n3_
        clear n0_ n1_ n2_ n3_
        have n0_ := Aside0.mk (Kd.R_drew HO_3.out)
        have n1_ := Aside0.mk (Kd.V_drew HO_8.out)
        have n2_ := Aside0.mk (blk_drew BK105.out)
        have n3_ := Aside0.mk (below_drew1 HB.out)
        clear HO_3
        clear HO_8
        clear BK105
        clear HB
        have HO_3 := n0_
        have HO_8 := n1_
        have BK105 := n2_
        have HB := n3_
        clear n0_ n1_ n2_ n3_
        refine start_ (n := 14) (S := fun w' => True) (ds := []) #[false, false, false, false, false, false, false, false, false, false, false, false, false, false] (by kernel_rfl) rfl rfl trivial (fun hHeld => ?_); refine with_tabW spans_Norm.tab6 spans_Norm.bits6 (fun HT_ HW_ => ?_)
        generalize w34.drew = w35 at HO_3 HO_8 BK105 HB hHeld ⊢
        refine pure_ (i := 0) (N := some 16) (v := ?_) (a' := ?_) #[true, false, false, false, false, false, false, false, false, false, false, false, false, false] rfl rfl (any_of HT_.out (by kernel_rfl)) (fun _ _ _ h => h) (Or.inl ⟨by rfl, ?_⟩) ?_ ?_
        rotate_left
        ·intro w'
         go_simp
         with_reducible rfl
        rotate_left
        ·simp only [Act.put, List.setIfInBounds_toArray, List.set_cons_zero, List.set_cons_succ, i64_w, i32_w]
         rfl
        refine pure_ (i := 1) (N := some 17) (v := ?_) (a' := ?_) #[true, true, false, false, false, false, false, false, false, false, false, false, false, false] rfl rfl (any_of HT_.out (by kernel_rfl)) (fun _ _ _ h => h) (Or.inl ⟨by rfl, ?_⟩) ?_ ?_
        rotate_left
        ·intro w'
         go_simp
         with_reducible rfl
        rotate_left
        ·simp only [Act.put, List.setIfInBounds_toArray, List.set_cons_zero, List.set_cons_succ, i64_w, i32_w]
         rfl
        refine pure_ (i := 2) (N := some 18) (v := ?_) (a' := ?_) #[true, true, true, false, false, false, false, false, false, false, false, false, false, false] rfl rfl (any_of HT_.out (by kernel_rfl)) (fun _ _ _ h => h) (Or.inl ⟨by rfl, ?_⟩) ?_ ?_
        rotate_left
        ·intro w'
         go_simp
         with_reducible rfl
        rotate_left
        ·simp only [Act.put, List.setIfInBounds_toArray, List.set_cons_zero, List.set_cons_succ, i64_w, i32_w]
         rfl
        refine pure_ (i := 3) (N := some 19) (v := undef) (a' := ?_) #[true, true, true, true, false, false, false, false, false, false, false, false, false, false] rfl rfl (any_of HT_.out (by kernel_rfl)) (fun _ _ _ h => h) (Or.inr ⟨by rfl, rfl⟩) ?_ ?_
        rotate_left
        ·simp only [Act.put, List.setIfInBounds_toArray, List.set_cons_zero, List.set_cons_succ, i64_w, i32_w]
         rfl
        refine pure_ (i := 4) (N := some 20) (v := undef) (a' := ?_) #[true, true, true, true, true, false, false, false, false, false, false, false, false, false] rfl rfl (any_of HT_.out (by kernel_rfl)) (fun _ _ _ h => h) (Or.inr ⟨by rfl, rfl⟩) ?_ ?_
        rotate_left
        ·simp only [Act.put, List.setIfInBounds_toArray, List.set_cons_zero, List.set_cons_succ, i64_w, i32_w]
         rfl
        refine pure_ (i := 5) (N := some 21) (v := undef) (a' := ?_) #[true, true, true, true, true, true, false, false, false, false, false, false, false, false] rfl rfl (any_of HT_.out (by kernel_rfl)) (fun _ _ _ h => h) (Or.inr ⟨by rfl, rfl⟩) ?_ ?_
        rotate_left
        ·simp only [Act.put, List.setIfInBounds_toArray, List.set_cons_zero, List.set_cons_succ, i64_w, i32_w]
         rfl
        refine pure_ (i := 6) (N := some 22) (v := undef) (a' := ?_) #[true, true, true, true, true, true, true, false, false, false, false, false, false, false] rfl rfl (any_of HT_.out (by kernel_rfl)) (fun _ _ _ h => h) (Or.inr ⟨by rfl, rfl⟩) ?_ ?_
        rotate_left
        ·simp only [Act.put, List.setIfInBounds_toArray, List.set_cons_zero, List.set_cons_succ, i64_w, i32_w]
         rfl
        refine pure_ (i := 7) (N := some 23) (v := undef) (a' := ?_) #[true, true, true, true, true, true, true, true, false, false, false, false, false, false] rfl rfl (any_of HT_.out (by kernel_rfl)) (fun _ _ _ h => h) (Or.inr ⟨by rfl, rfl⟩) ?_ ?_
        rotate_left
        ·simp only [Act.put, List.setIfInBounds_toArray, List.set_cons_zero, List.set_cons_succ, i64_w, i32_w]
         rfl
        refine pure_ (i := 8) (N := some 24) (v := undef) (a' := ?_) #[true, true, true, true, true, true, true, true, true, false, false, false, false, false] rfl rfl (any_of HT_.out (by kernel_rfl)) (fun _ _ _ h => h) (Or.inr ⟨by rfl, rfl⟩) ?_ ?_
        rotate_left
        ·simp only [Act.put, List.setIfInBounds_toArray, List.set_cons_zero, List.set_cons_succ, i64_w, i32_w]
         rfl
        refine pure_ (i := 9) (N := some 25) (v := undef) (a' := ?_) #[true, true, true, true, true, true, true, true, true, true, false, false, false, false] rfl rfl (any_of HT_.out (by kernel_rfl)) (fun _ _ _ h => h) (Or.inr ⟨by rfl, rfl⟩) ?_ ?_
        rotate_left
        ·simp only [Act.put, List.setIfInBounds_toArray, List.set_cons_zero, List.set_cons_succ, i64_w, i32_w]
         rfl
        refine pure_ (i := 10) (N := some 26) (v := undef) (a' := ?_) #[true, true, true, true, true, true, true, true, true, true, true, false, false, false] rfl rfl (any_of HT_.out (by kernel_rfl)) (fun _ _ _ h => h) (Or.inr ⟨by rfl, rfl⟩) ?_ ?_
        rotate_left
        ·simp only [Act.put, List.setIfInBounds_toArray, List.set_cons_zero, List.set_cons_succ, i64_w, i32_w]
         rfl
        refine pure_ (i := 11) (N := some 27) (v := undef) (a' := ?_) #[true, true, true, true, true, true, true, true, true, true, true, true, false, false] rfl rfl (any_of HT_.out (by kernel_rfl)) (fun _ _ _ h => h) (Or.inr ⟨by rfl, rfl⟩) ?_ ?_
        rotate_left
        ·simp only [Act.put, List.setIfInBounds_toArray, List.set_cons_zero, List.set_cons_succ, i64_w, i32_w]
         rfl
        refine pure_ (i := 12) (N := some 28) (v := undef) (a' := ?_) #[true, true, true, true, true, true, true, true, true, true, true, true, true, false] rfl rfl (any_of HT_.out (by kernel_rfl)) (fun _ _ _ h => h) (Or.inr ⟨by rfl, rfl⟩) ?_ ?_
        rotate_left
        ·simp only [Act.put, List.setIfInBounds_toArray, List.set_cons_zero, List.set_cons_succ, i64_w, i32_w]
         rfl
        refine pure_ (i := 13) (N := some 29) (v := ?_) (a' := ?_) #[true, true, true, true, true, true, true, true, true, true, true, true, true, true] rfl rfl (any_of HT_.out (by kernel_rfl)) (fun _ _ _ h => h) (Or.inl ⟨by rfl, ?_⟩) ?_ ?_
        rotate_left
        ·intro w'
         go_simp
         with_reducible rfl
        rotate_left
        ·simp only [Act.put, List.setIfInBounds_toArray, List.set_cons_zero, List.set_cons_succ, i64_w, i32_w]
         rfl
        refine done_ (done_of HT_.out (by kernel_rfl)) ?_
        have hcz36_0 : w35.cell? ⟨gb105, 0, none⟩ = some (.int .i64 ((rd_T31 x8_1 x10_1).f0)) := (blk_cell BK105.out 0).trans rfl
        have hcz36_1 : w35.cell? ⟨gb105, 1, none⟩ = some (.int .i64 ((rd_T31 x8_1 x10_1).f1)) := (blk_cell BK105.out 1).trans rfl
        have hfz36_0 := blk_frozen BK105.out 0
        have hfz36_1 := blk_frozen BK105.out 1
        try go_wp2_with (first | ((with_reducible refine gate_builtin (b := .append) (xs := #[.tmp 44, .tmp 46]) rfl ?_); at_builtin; refine Kd.R_append k31 (w0 := w) w.heap.size rfl (.tmp 44) (.tmp 46) 23 31 (.agg #[(.int .i64 0), (.int .i64 0)]) 16 rfl Tryd.underlying23 info31 rfl (by decide) (by omega) (.slice Ao33 x3_1.length co33) x3_1 (⟨(rd_T31 x8_1 x10_1).f0, (rd_T31 x8_1 x10_1).f1⟩ : S31) [.int .i64 ((rd_T31 x8_1 x10_1).f0), .int .i64 ((rd_T31 x8_1 x10_1).f1)] (fun k_ => k_ ≠ gb105) (fun _ => False) rfl rfl ?aP (fun _ hk => hk.elim) ?aF ?aO ?aB ?aS ?aL ?_; (case aP => exact k31_mkM _ _ _ (⟨(rd_T31 x8_1 x10_1).f0, (rd_T31 x8_1 x10_1).f1⟩ : S31)); (case aB => exact (by repeat (first | (with_reducible first | exact HB.out | apply below_alloc | apply pw_below_drewN | apply below_drew1 | refine below_set ?_ GE105.out) | exact HB.out))); (case aF => exact (fun k_ hk => Kd.freshB (g := gb105) (o := .cells #[.int .i64 ((rd_T31 x8_1 x10_1).f0), .int .i64 ((rd_T31 x8_1 x10_1).f1)] 31 (0, 0)) (by (with_reducible repeat (first | refine blk_drewN ?_ _ | refine blk_drew ?_ | refine blk_alloc ?_ _)); exact BK105.out) k_ hk)); (case aO => exact (by (with_reducible repeat (first | apply Kd.R_alloc | apply Kd.R_drewN | apply Kd.R_drew)); exact HO_3.out)); (case aS => exact (below_size (by repeat (first | (with_reducible first | exact HB.out | apply below_alloc | apply pw_below_drewN | apply below_drew1 | refine below_set ?_ GE105.out) | exact HB.out)))); (case aL => have := LMc30.out; omega); intro v113 w37 ho hb hg hat; rw [← Ny112.out] at ho; have n0_ := Aside0.mk (Kd.V_afterv (ok := (fun k_ => k_ ≠ gb105)) (by (with_reducible repeat (first | apply Kd.V_alloc | apply Kd.V_drewN | apply Kd.V_drew)); exact Kd.V_mono HO_8.out (fun _ hk => ⟨hk.2, hk.1⟩)) hg hat); have n1_ := Aside0.mk (blk_grown (g := gb105) (o := .cells #[.int .i64 ((rd_T31 x8_1 x10_1).f0), .int .i64 ((rd_T31 x8_1 x10_1).f1)] 31 (0, 0)) (by (with_reducible repeat (first | refine blk_drewN ?_ _ | refine blk_drew ?_ | refine blk_alloc ?_ _)); exact BK105.out) hg (Kd.R_away HO_3.out (fun _ hk => hk))); have n2_ := Aside0.mk (hb); have n3_ := Aside0.mk (ho); clear HO_8; clear BK105; clear HB; clear HO_3; have HO_8 := n0_; have BK105 := n1_; have HB := n2_; have HO114 := n3_; clear n0_ n1_ n2_ n3_; clear ho hb hg hat))
        (try simp only [← hl8_1])
        go_roundg k1
        case measure => have := HK1.out; omega
        case rel => exact ⟨(y112), (x8_1), (wrap64 (x10_1 + 1)), (by first | rfl | (simp; done) | (simp [*]; done)), H', ⟨by have := HK1.out; omega⟩, ⟨by (try simp only [hl8_1]); (with_reducible repeat (first | apply Kd.R_alloc | apply Kd.R_drewN | apply Kd.R_drew)); exact Kd.R_mono HO114.out (fun _ hk => trivial)⟩, ⟨by (try simp only [hl8_1]); (with_reducible repeat (first | apply Kd.V_alloc | apply Kd.V_drewN | apply Kd.V_drew)); exact Kd.V_mono HO_8.out (fun _ hk => hk.2)⟩, ⟨by repeat (first | (with_reducible first | exact HB.out | apply below_alloc | apply pw_below_drewN | apply below_drew1 | refine below_set ?_ GE105.out) | exact HB.out)⟩⟩
       ·rw [if_neg c30] at H
        exact absurd H (by simp)
     ·rw [if_neg c7] at H
      exact absurd H (by simp)
    ·rw [if_neg c6] at H
     exact absurd H (by simp)
   ·rw [if_neg c5] at H
    have c5b0 : decide (x10_1 < (t101.length : Int)) = false := decide_eq_false c5
    have c5c_ : decide (x10_1 < (x8_1.length : Int)) = false := by rw [← hl8_1]; exact c5b0
    clear c5
    obtain rfl := Option.some.inj H
    go_wp2
    go_ret
    exact ⟨_, by first | rfl | (simp [errW_none, errW_some] <;> rfl) | (simp [*, errW_none, errW_some] <;> rfl), by (with_reducible repeat (first | apply Kd.R_alloc | apply Kd.R_drewN | apply Kd.R_drew)); exact HO_3.out, by repeat (first | (with_reducible first | exact HB.out | apply below_alloc | apply pw_below_drewN | apply below_drew1) | exact HB.out)⟩

end Go.Proofs.YtnlakdpfkgjdaaaDoor.G
