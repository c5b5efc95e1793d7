/- What functions of the translation come to, and their calls' proofs; by a program of mine over the kit's print, with contracts given by hand beside. Conditions: where a plain function tells none, nothing is said. -/
import Derived.Test.YtnlakdpfkgjdaaaDoorG0
import Derived.Test.YtnlakdpfkgjdaaaDoorGNorm
import Derived.Test.YtnlakdpfkgjdaaaDoorGRead
import Derived.Test.YtnlakdpfkgjdaaaDoorGText
namespace Go.Proofs.YtnlakdpfkgjdaaaDoor.G
open Go.RowKit Go.Proofs.YtnlakdpfkgjdaaaDoorW.PrintWords Go.Proofs.YtnlakdpfkgjdaaaDoorW.PrintLast Go.Proofs.YtnlakdpfkgjdaaaDoorW.PrintMore
attribute [local go_sem] max2_int min2_int max_two min_two max_three min_three max_four min_four   -- for this text's walks alone
set_option linter.unusedVariables false
set_option linter.unusedSimpArgs false

/-! ### spans_Count: function 20 -/
def spans_Count.l0 : Nat → Int → List (S31) → Int → Int → Option (Int)
 | 0, _, _, _, _ => none
 | k + 1, x3, x7, x8, x9 => if x9 < x8 then (if 0 ≤ x9 then (if x9 < (x7.length : Int) then (spans_Count.l0 k (wrap64 (x3 + (wrap64 ((wrap64 (((rd_T31 x7 x9).f1) - ((rd_T31 x7 x9).f0))) + 1)))) x7 x8 (wrap64 (x9 + 1))) else (none)) else (none)) else (some x3)
def spans_Count.f (k : Nat) (l0 : List (S31)) : Option (Int) := (spans_Norm.f k l0).bind fun t101 => (spans_Count.l0 k 0 t101 (t101.length : Int) 0)
theorem spans_Count.mono_l : ∀ k, (∀ y0 y1 y2 y3, LeO (spans_Count.l0 k y0 y1 y2 y3) (spans_Count.l0 (k + 1) y0 y1 y2 y3))
 | 0 => fun _ _ _ _ r h => by simp [spans_Count.l0] at h
 | k + 1 => by
  have ih0 := spans_Count.mono_l k
  ·intro y0 y1 y2 y3
   unfold spans_Count.l0
   repeat' first
   | (with_reducible exact ih0 _ _ _ _)
   | (with_reducible exact spans_Norm.mono _ _)
   | (with_reducible exact LeO.refl _)
   | (with_reducible exact LeO.none _)
   | (with_reducible refine LeO.ite ?_ ?_)
   | (with_reducible refine LeO.bind ?_ (fun _ => ?_))
   | exact ih0 _ _ _ _
   | exact spans_Norm.mono _ _
   | exact LeO.none _
   | refine LeO.ite ?_ ?_
   | refine LeO.bind ?_ (fun _ => ?_)
theorem spans_Count.mono : ∀ a0 k, LeO (spans_Count.f k a0) (spans_Count.f (k + 1) a0) := by
 intro a0 k
 have ih0 := spans_Count.mono_l k
 unfold spans_Count.f
 repeat' first
  | (with_reducible exact ih0 _ _ _ _)
  | (with_reducible exact spans_Norm.mono _ _)
  | (with_reducible exact LeO.refl _)
  | (with_reducible exact LeO.none _)
  | (with_reducible refine LeO.ite ?_ ?_)
  | (with_reducible refine LeO.bind ?_ (fun _ => ?_))
  | exact ih0 _ _ _ _
  | exact spans_Norm.mono _ _
  | exact LeO.none _
  | refine LeO.ite ?_ ?_
  | refine LeO.bind ?_ (fun _ => ?_)
set_option maxHeartbeats 8000000 in
set_option maxRecDepth 100000 in
theorem spans_Count.calls (k : Nat) (A0 : Option Addr) (c0 : Nat) (l0 : List (S31)) (r : Int) (w : World) (hr0 : Kd.C k31 w A0 l0.length l0) (hc0 : l0.length ≤ c0) (h : spans_Count.f k l0 = some r) :
 Calls Tryd.prog 20 #[.slice A0 l0.length c0] w fun e w' => e = .returned (.int .i64 r) ∧ Below w.heap.size w w' := by
 have hu31 := Tryd.underlying31
 have HR0 := Aside0.mk hr0
 have HC0 := Aside0.mk hc0
 clear hr0 hc0
 have HB := Aside0.mk (Below.refl w.heap.size w)
 have H : ((spans_Norm.f k l0).bind fun t101 => (spans_Count.l0 k 0 t101 (t101.length : Int) 0)) = some r := h
 clear h
 replace H := Option.bind_eq_some_iff.mp H
 obtain ⟨t101, A20, H⟩ := H
 replace H : (spans_Count.l0 k 0 t101 (t101.length : Int) 0) = some r := H
 have A2 := Aside0.mk A20
 clear A20
 have H' := Aside0.mk H
 clear H
 go_enter Tryd.func20, Tryd.ntmps20
 go_wp2_with (first | ((with_reducible refine gate_callee (f := 16) rfl ?_); refine goesL_ (some 7) rfl rfl Tryd.func16 (by kernel_rfl) rfl #[.slice A0 l0.length c0] rfl qM_ ?_; (with_reducible refine (spans_Norm.calls k _ _ l0 t101 _ ?side1 ?side2 A2.out).mono ?_); (case side1 => exact qC_ (HR0.out)); (case side2 => exact HC0.out); rintro e w3 ⟨v102, rfl, ho0, hb⟩; refine ⟨_, rfl, ?_⟩; have n0_ := Aside0.mk (Kd.R_lower ho0 (below_size (qdb35_ HB.out))); have n1_ := Aside0.mk (below_step (qdb35_ HB.out) hb); clear HB; have HO103 := n0_; have HB := n1_; clear n0_ n1_; (try clear hb); (try clear hb2); (try clear hk); (try clear hi); (try clear ho0); obtain ⟨Ao4, co4, eo4⟩ := Kd.R_slice HO103.out; subst eo4))
 go_loopg [3, 9] k (fun kq v3 v9 w' => ∃ (x3_1 : Int) (x9_1 : Int), v3 = .int .i64 x3_1 ∧ v9 = .int .i64 x9_1 ∧ Aside0 (spans_Count.l0 kq x3_1 t101 (t101.length : Int) x9_1 = some r) ∧ Aside0 (kq ≤ k) ∧ Aside0 (Kd.R k31 31 w' w.heap.size (fun _ => True) (.slice Ao4 t101.length co4) t101) ∧ Aside0 (Below w.heap.size w w'))
 case atStart => exact ⟨(0), (0), (by first | rfl | (simp; done) | (simp [*]; done)), (by first | rfl | (simp; done) | (simp [*]; done)), H', ⟨Nat.le_refl _⟩, ⟨by (with_reducible repeat (first | apply Kd.R_alloc | apply Kd.R_drewN | apply Kd.R_drew)); exact HO103.out⟩, ⟨(qdb35_ HB.out)⟩⟩
 case round =>
  clear H'
  try clear c1
  try clear c2
  try clear p2
  obtain ⟨x3_1, x9_1, rfl, rfl, HA, HK1, HO_7, HB⟩ := hrel
  cases gk with
  | zero => exact absurd HA.out (by simp [spans_Count.l0])
  | succ k1 =>
   have H := HA.out
   clear HA
   simp only [spans_Count.l0] at H
   by_cases c5 : x9_1 < (t101.length : Int)
   ·rw [if_pos c5] at H
    have c5b0 : decide (x9_1 < (t101.length : Int)) = true := decide_eq_true c5
    clear c5
    by_cases c6 : 0 ≤ x9_1
    ·rw [if_pos c6] at H
     have c6b0 : decide (0 ≤ x9_1) = true := decide_eq_true c6
     clear c6
     by_cases c7 : x9_1 < (t101.length : Int)
     ·rw [if_pos c7] at H
      have c7b0 : decide (x9_1 < (t101.length : Int)) = true := decide_eq_true c7
      clear c7
      have H' := Aside0.mk H
      clear H
      have p104 : 0 ≤ (x9_1 : Int) := of_decide_eq_true (by first | (with_reducible assumption) | assumption)
      have q104 : x9_1 < (t101.length : Int) := of_decide_eq_true (by first | (with_reducible assumption) | assumption)
      obtain ⟨ad104, e104, hx104_0, hx104_1⟩ := at_T31 (Kd.R_reads' HO_7.out).2.2 x9_1 p104 q104
      cases e104
      replace p104 := eq_true p104
      replace q104 := eq_true q104
      go_wp2_with (first | ((with_reducible refine gate_dst (N := 5) rfl ?_); refine box_event ?hg (N := 5) ?hd (cs := #[.int .i64 0, .int .i64 0]) (t := 31) ?hr ?_; (case hd => rfl); (case hg => rfl); (case hr => first | (go_simp; done) | (go_simp; rfl)); intro gb105 hg w8 hbox hb; have n0_ := Aside0.mk (Kd.R_below (Kd.R_elderB (q8524_ HO_7.out) gb105 (Nat.le_of_eq hg.symm)) hb); have n1_ := Aside0.mk (below_step (qdb35_ HB.out) hb); have n2_ := Aside0.mk (hbox); have n3_ := Aside0.mk ((by rw [hg]; exact (below_size (qdb35_ HB.out)) : w.heap.size ≤ gb105)); have n4_ := Aside0.mk ((by rw [hg]; exact (below_size (qdb35_ HB.out)) : w.heap.size ≤ gb105)); clear HO_7; clear HB; have HO_7 := n0_; have HB := n1_; have BK105 := n2_; have GW105 := n3_; have GE105 := n4_; clear n0_ n1_ n2_ n3_ n4_; clear hb hbox hg; have hcz9_0 : w8.cell? ⟨gb105, 0, none⟩ = some (.int .i64 0) := (blk_cell BK105.out 0).trans rfl; have hcz9_1 : w8.cell? ⟨gb105, 1, none⟩ = some (.int .i64 0) := (blk_cell BK105.out 1).trans rfl; have hfz9_0 := blk_frozen BK105.out 0; have hfz9_1 := blk_frozen BK105.out 1))
      go_roundg k1
      case measure => have := HK1.out; omega
      case rel => exact ⟨(wrap64 (x3_1 + (wrap64 ((wrap64 (((rd_T31 t101 x9_1).f1) - ((rd_T31 t101 x9_1).f0))) + 1)))), (wrap64 (x9_1 + 1)), (by first | rfl | (simp; done) | (simp [*]; done)), (by first | rfl | (simp; done) | (simp [*]; done)), H', ⟨by have := HK1.out; omega⟩, ⟨by (with_reducible repeat (first | apply Kd.R_alloc | apply Kd.R_drewN | apply Kd.R_drew)); exact Kd.R_mono (Kd.R_far (p := ⟨gb105, 1, none⟩) (Kd.R_far (p := ⟨gb105, 0, none⟩) (Kd.R_mono HO_7.out (fun k_ hk => (⟨hk, hk.2⟩ : _ ∧ k_ ≠ gb105))) (fun _ hk => hk.2) (.int .i64 ((rd_T31 t101 x9_1).f0))) (fun _ hk => hk.2) (.int .i64 ((rd_T31 t101 x9_1).f1))) (fun _ hk => trivial)⟩, ⟨(qed14_ HB.out GE105.out)⟩⟩
     ·rw [if_neg c7] at H
      exact absurd H (by simp)
    ·rw [if_neg c6] at H
     exact absurd H (by simp)
   ·rw [if_neg c5] at H
    have c5b0 : decide (x9_1 < (t101.length : Int)) = false := decide_eq_false c5
    clear c5
    obtain rfl := Option.some.inj H
    go_wp2
    go_ret
    exact ⟨by first | rfl | (simp [errW_none, errW_some] <;> rfl) | (simp [*, errW_none, errW_some] <;> rfl), (qdb35_ HB.out)⟩

/-! ### caravanlaw2_awake: function 9 -/
def caravanlaw2_awake.f (k : Nat)  : Option (Bool) := (spans_Read.f (⟨#[48, 45, 53, 44, 55]⟩ : ByteArray)).bind fun bt106 => (if bt106.2 = true then (if (bt106.1.length : Int) = 2 then ((spans_Text.f k (([(⟨7, 7⟩ : S31), (⟨0, 5⟩ : S31)] : List (S31)))).bind fun t113 => (if t113.toList = ([48, 45, 53, 44, 55] : List UInt8) then ((spans_Count.f k bt106.1).bind fun t114 => (some (t114 == 7))) else (some false))) else (some false)) else (some false))
theorem caravanlaw2_awake.mono : ∀ k, LeO (caravanlaw2_awake.f k ) (caravanlaw2_awake.f (k + 1) ) := by
 intro  k
 unfold caravanlaw2_awake.f
 repeat' first
  | (with_reducible exact spans_Count.mono _ _)
  | (with_reducible exact spans_Text.mono _ _)
  | (with_reducible exact LeO.refl _)
  | (with_reducible exact LeO.none _)
  | (with_reducible refine LeO.ite ?_ ?_)
  | (with_reducible refine LeO.bind ?_ (fun _ => ?_))
  | exact spans_Count.mono _ _
  | exact spans_Text.mono _ _
  | exact LeO.none _
  | refine LeO.ite ?_ ?_
  | refine LeO.bind ?_ (fun _ => ?_)
set_option maxHeartbeats 8000000 in
set_option maxRecDepth 100000 in
theorem caravanlaw2_awake.calls (k : Nat)  (r : Bool) (w : World) (h : caravanlaw2_awake.f k  = some r) (hWd_ : Wd w) :
 Calls Tryd.prog 9 #[] w fun e w' => e = .returned (.bool r) ∧ Below w.heap.size w w' := by
 have hu31 := Tryd.underlying31
 have HB := Aside0.mk (Below.refl w.heap.size w)
 have H : ((spans_Read.f (⟨#[48, 45, 53, 44, 55]⟩ : ByteArray)).bind fun bt106 => (if bt106.2 = true then (if (bt106.1.length : Int) = 2 then ((spans_Text.f k (([(⟨7, 7⟩ : S31), (⟨0, 5⟩ : S31)] : List (S31)))).bind fun t113 => (if t113.toList = ([48, 45, 53, 44, 55] : List UInt8) then ((spans_Count.f k bt106.1).bind fun t114 => (some (t114 == 7))) else (some false))) else (some false)) else (some false))) = some r := h
 clear h
 replace H := Option.bind_eq_some_iff.mp H
 obtain ⟨⟨t106, t107⟩, A10, H⟩ := H
 replace H : (if t107 = true then (if (t106.length : Int) = 2 then ((spans_Text.f k (([(⟨7, 7⟩ : S31), (⟨0, 5⟩ : S31)] : List (S31)))).bind fun t113 => (if t113.toList = ([48, 45, 53, 44, 55] : List UInt8) then ((spans_Count.f k t106).bind fun t114 => (some (t114 == 7))) else (some false))) else (some false)) else (some false)) = some r := H
 have A1 := Aside0.mk A10
 clear A10
 by_cases c2 : t107 = true
 ·subst c2
  have H1 : (if (t106.length : Int) = 2 then ((spans_Text.f k (([(⟨7, 7⟩ : S31), (⟨0, 5⟩ : S31)] : List (S31)))).bind fun t113 => (if t113.toList = ([48, 45, 53, 44, 55] : List UInt8) then ((spans_Count.f k t106).bind fun t114 => (some (t114 == 7))) else (some false))) else (some false)) = some r := by rw [if_pos rfl] at H; exact H
  clear H
  have H := H1
  clear H1
  by_cases c3 : (t106.length : Int) = 2
  ·rw [if_pos c3] at H
   have c3b0 : ((t106.length : Int) == 2) = true := beq_iff_eq.mpr c3
   have c3b1 : ((t106.length : Int) != 2) = false := bne_eq_false_iff_eq.mpr c3
   clear c3
   obtain ⟨y110, hy110⟩ : ∃ y_ : List (S31), y_ = (([(⟨7, 7⟩ : S31), (⟨0, 5⟩ : S31)] : List (S31))) := ⟨_, rfl⟩
   replace H : ((spans_Text.f k y110).bind fun t113 => (if t113.toList = ([48, 45, 53, 44, 55] : List UInt8) then ((spans_Count.f k t106).bind fun t114 => (some (t114 == 7))) else (some false))) = some r := by first | (rw [hy110]; with_reducible exact H) | (have H2_ := (Option.bind_some _ _).symm.trans H; rw [hy110]; with_reducible exact H2_) | (have H2_ := (Option.bind_some _ _).symm.trans H; with_reducible exact H2_) | with_reducible exact H | (rw [hy110]; exact H) | exact H
   have Ny110 := Aside0.mk hy110
   clear hy110
   replace H := Option.bind_eq_some_iff.mp H
   obtain ⟨t113, A40, H⟩ := H
   replace H : (if t113.toList = ([48, 45, 53, 44, 55] : List UInt8) then ((spans_Count.f k t106).bind fun t114 => (some (t114 == 7))) else (some false)) = some r := H
   have A4 := Aside0.mk A40
   clear A40
   by_cases c5 : t113.toList = ([48, 45, 53, 44, 55] : List UInt8)
   ·rw [if_pos c5] at H
    have c5b0 : (t113.toList == ([48, 45, 53, 44, 55] : List UInt8)) = true := beq_iff_eq.mpr c5
    have c5b1 : (t113.toList != ([48, 45, 53, 44, 55] : List UInt8)) = false := bne_eq_false_iff_eq.mpr c5
    clear c5
    replace H := Option.bind_eq_some_iff.mp H
    obtain ⟨t114, A60, H⟩ := H
    replace H : (some (t114 == 7)) = some r := H
    have A6 := Aside0.mk A60
    clear A60
    obtain rfl := Option.some.inj H
    go_enter Tryd.func9, Tryd.ntmps9
    go_wp2_with (first | ((with_reducible refine gate_callee (f := 10) rfl ?_); refine goesL_ (some 4) rfl rfl Tryd.func10 (by kernel_rfl) rfl #[.string (⟨#[48, 45, 53, 44, 55]⟩ : ByteArray)] rfl qM_ ?_; (with_reducible refine (spans_Read.calls (⟨#[48, 45, 53, 44, 55]⟩ : ByteArray) t106 true _ A1.out (Wd.of hWd_ (qdb35_ HB.out))).mono ?_); rintro e w7 ⟨v108, rfl, ho0, hb⟩; refine ⟨_, rfl, ?_⟩; have n0_ := Aside0.mk (Kd.R_lower ho0 (below_size (qdb35_ HB.out))); have n1_ := Aside0.mk (below_step (qdb35_ HB.out) hb); clear HB; have HO109 := n0_; have HB := n1_; clear n0_ n1_; (try clear hb); (try clear hb2); (try clear hk); (try clear hi); (try clear ho0); obtain ⟨Ao8, co8, eo8⟩ := Kd.R_slice HO109.out; subst eo8) | ((with_reducible refine gate_dst (N := 16) rfl ?_); (try (refine gate_guard (by rfl) ?_; dsimp only)); refine Kd.R_lit k31 _ 31 ?hg (N := 16) ?hd (xs := ([(⟨7, 7⟩ : S31), (⟨0, 5⟩ : S31)] : List (S31))) (inner := [.int .i64 7, .int .i64 7, .int .i64 0, .int .i64 5]) (ok := fun _ => True) (okp := fun _ => True) ?hr ?hp (fun _ hk => hk) trivial (Below.refl _ _) (Nat.le_refl _) (by simp) ?_; (case hd => rfl); (case hg => rfl); (case hr => first | (go_simp; done) | (go_simp; rfl)); (case hp => exact (Reps.c2 (show Kd.M k31 _ _ _ (⟨7, 7⟩ : S31) [.int .i64 7, .int .i64 7] from (k31_mkM _ _ _ (⟨7, 7⟩ : S31) )) (Reps.c2 (show Kd.M k31 _ _ _ (⟨0, 5⟩ : S31) [.int .i64 0, .int .i64 5] from (k31_mkM _ _ _ (⟨0, 5⟩ : S31) )) (Reps.none _ _)))); intro v111 w9 ho10 hb hg_ hnew_; clear hg_ hnew_; (first | rw [← Ny110.out] at ho10 | (simp only [Int.reduceToNat] at ho10; rw [← Ny110.out] at ho10)); have n0_ := Aside0.mk (Kd.R_elder' (q8524_ HO109.out) (Kd.R_base ho10) hb); have n1_ := Aside0.mk (Kd.R_lower (Kd.R_new' ho10 (Kd.R_lt (q8524_ HO109.out))) (below_size (qdb35_ HB.out))); have n2_ := Aside0.mk (below_step (qdb35_ HB.out) hb); clear HO109; clear HB; have HO109 := n0_; have HO112 := n1_; have HB := n2_; clear n0_ n1_ n2_; clear hb ho10; obtain ⟨Ao11, co11, eo11⟩ := Kd.R_slice HO112.out; subst eo11) | (go_at_call 22; (with_reducible refine (spans_Text.calls k _ _ y110 t113 _ ?side1 ?side2 A4.out (Wd.of hWd_ (qdb35_ HB.out))).mono ?_); (case side1 => exact qC_ ((Kd.R_reads' HO112.out).2.2)); (case side2 => exact (Kd.R_reads' HO112.out).2.1); rintro e w12 ⟨rfl, hb⟩; have n0_ := Aside0.mk (Kd.R_below (q8524_ HO109.out) hb); have n1_ := Aside0.mk (Kd.R_below (q8524_ HO112.out) hb); have n2_ := Aside0.mk (below_step (qdb35_ HB.out) hb); clear HO109; clear HO112; clear HB; have HO109 := n0_; have HO112 := n1_; have HB := n2_; clear n0_ n1_ n2_; (try clear hb); (try clear hb2); (try clear hk); (try clear hi)) | (go_at_call 20; (with_reducible refine (spans_Count.calls k _ _ t106 t114 _ ?side1 ?side2 A6.out).mono ?_); (case side1 => exact qC_ ((Kd.R_reads' HO109.out).2.2)); (case side2 => exact (Kd.R_reads' HO109.out).2.1); rintro e w13 ⟨rfl, hb⟩; have n0_ := Aside0.mk (Kd.R_below (q8524_ HO109.out) hb); have n1_ := Aside0.mk (Kd.R_below (q8524_ HO112.out) hb); have n2_ := Aside0.mk (below_step (qdb35_ HB.out) hb); clear HO109; clear HO112; clear HB; have HO109 := n0_; have HO112 := n1_; have HB := n2_; clear n0_ n1_ n2_; (try clear hb); (try clear hb2); (try clear hk); (try clear hi)))
    go_ret
    exact ⟨by first | rfl | (simp [errW_none, errW_some] <;> rfl) | (simp [*, errW_none, errW_some] <;> rfl), (qdb35_ HB.out)⟩
   ·rw [if_neg c5] at H
    have c5b0 : (t113.toList == ([48, 45, 53, 44, 55] : List UInt8)) = false := beq_eq_false_iff_ne.mpr c5
    have c5b1 : (t113.toList != ([48, 45, 53, 44, 55] : List UInt8)) = true := bne_iff_ne.mpr c5
    obtain rfl := Option.some.inj H
    go_enter Tryd.func9, Tryd.ntmps9
    go_wp2_with (first | ((with_reducible refine gate_callee (f := 10) rfl ?_); refine goesL_ (some 4) rfl rfl Tryd.func10 (by kernel_rfl) rfl #[.string (⟨#[48, 45, 53, 44, 55]⟩ : ByteArray)] rfl qM_ ?_; (with_reducible refine (spans_Read.calls (⟨#[48, 45, 53, 44, 55]⟩ : ByteArray) t106 true _ A1.out (Wd.of hWd_ (qdb35_ HB.out))).mono ?_); rintro e w14 ⟨v108, rfl, ho0, hb⟩; refine ⟨_, rfl, ?_⟩; have n0_ := Aside0.mk (Kd.R_lower ho0 (below_size (qdb35_ HB.out))); have n1_ := Aside0.mk (below_step (qdb35_ HB.out) hb); clear HB; have HO109 := n0_; have HB := n1_; clear n0_ n1_; (try clear hb); (try clear hb2); (try clear hk); (try clear hi); (try clear ho0); obtain ⟨Ao15, co15, eo15⟩ := Kd.R_slice HO109.out; subst eo15) | ((with_reducible refine gate_dst (N := 16) rfl ?_); (try (refine gate_guard (by rfl) ?_; dsimp only)); refine Kd.R_lit k31 _ 31 ?hg (N := 16) ?hd (xs := ([(⟨7, 7⟩ : S31), (⟨0, 5⟩ : S31)] : List (S31))) (inner := [.int .i64 7, .int .i64 7, .int .i64 0, .int .i64 5]) (ok := fun _ => True) (okp := fun _ => True) ?hr ?hp (fun _ hk => hk) trivial (Below.refl _ _) (Nat.le_refl _) (by simp) ?_; (case hd => rfl); (case hg => rfl); (case hr => first | (go_simp; done) | (go_simp; rfl)); (case hp => exact (Reps.c2 (show Kd.M k31 _ _ _ (⟨7, 7⟩ : S31) [.int .i64 7, .int .i64 7] from (k31_mkM _ _ _ (⟨7, 7⟩ : S31) )) (Reps.c2 (show Kd.M k31 _ _ _ (⟨0, 5⟩ : S31) [.int .i64 0, .int .i64 5] from (k31_mkM _ _ _ (⟨0, 5⟩ : S31) )) (Reps.none _ _)))); intro v111 w16 ho17 hb hg_ hnew_; clear hg_ hnew_; (first | rw [← Ny110.out] at ho17 | (simp only [Int.reduceToNat] at ho17; rw [← Ny110.out] at ho17)); have n0_ := Aside0.mk (Kd.R_elder' (q8524_ HO109.out) (Kd.R_base ho17) hb); have n1_ := Aside0.mk (Kd.R_lower (Kd.R_new' ho17 (Kd.R_lt (q8524_ HO109.out))) (below_size (qdb35_ HB.out))); have n2_ := Aside0.mk (below_step (qdb35_ HB.out) hb); clear HO109; clear HB; have HO109 := n0_; have HO112 := n1_; have HB := n2_; clear n0_ n1_ n2_; clear hb ho17; obtain ⟨Ao18, co18, eo18⟩ := Kd.R_slice HO112.out; subst eo18) | (go_at_call 22; (with_reducible refine (spans_Text.calls k _ _ y110 t113 _ ?side1 ?side2 A4.out (Wd.of hWd_ (qdb35_ HB.out))).mono ?_); (case side1 => exact qC_ ((Kd.R_reads' HO112.out).2.2)); (case side2 => exact (Kd.R_reads' HO112.out).2.1); rintro e w19 ⟨rfl, hb⟩; have n0_ := Aside0.mk (Kd.R_below (q8524_ HO109.out) hb); have n1_ := Aside0.mk (Kd.R_below (q8524_ HO112.out) hb); have n2_ := Aside0.mk (below_step (qdb35_ HB.out) hb); clear HO109; clear HO112; clear HB; have HO109 := n0_; have HO112 := n1_; have HB := n2_; clear n0_ n1_ n2_; (try clear hb); (try clear hb2); (try clear hk); (try clear hi)))
    go_ret
    exact ⟨by first | rfl | (simp [errW_none, errW_some] <;> rfl) | (simp [*, errW_none, errW_some] <;> rfl), (qdb35_ HB.out)⟩
  ·rw [if_neg c3] at H
   have c3b0 : ((t106.length : Int) == 2) = false := beq_eq_false_iff_ne.mpr c3
   have c3b1 : ((t106.length : Int) != 2) = true := bne_iff_ne.mpr c3
   obtain rfl := Option.some.inj H
   go_enter Tryd.func9, Tryd.ntmps9
   go_wp2_with (first | ((with_reducible refine gate_callee (f := 10) rfl ?_); refine goesL_ (some 4) rfl rfl Tryd.func10 (by kernel_rfl) rfl #[.string (⟨#[48, 45, 53, 44, 55]⟩ : ByteArray)] rfl qM_ ?_; (with_reducible refine (spans_Read.calls (⟨#[48, 45, 53, 44, 55]⟩ : ByteArray) t106 true _ A1.out (Wd.of hWd_ (qdb35_ HB.out))).mono ?_); rintro e w20 ⟨v108, rfl, ho0, hb⟩; refine ⟨_, rfl, ?_⟩; have n0_ := Aside0.mk (Kd.R_lower ho0 (below_size (qdb35_ HB.out))); have n1_ := Aside0.mk (below_step (qdb35_ HB.out) hb); clear HB; have HO109 := n0_; have HB := n1_; clear n0_ n1_; (try clear hb); (try clear hb2); (try clear hk); (try clear hi); (try clear ho0); obtain ⟨Ao21, co21, eo21⟩ := Kd.R_slice HO109.out; subst eo21))
   go_ret
   exact ⟨by first | rfl | (simp [errW_none, errW_some] <;> rfl) | (simp [*, errW_none, errW_some] <;> rfl), (qdb35_ HB.out)⟩
 ·replace c2 := Bool.eq_false_iff.mpr c2
  subst c2
  have H1 : (some false) = some r := by rw [if_neg (show ¬ (false = true) by decide)] at H; exact H
  clear H
  have H := H1
  clear H1
  obtain rfl := Option.some.inj H
  go_enter Tryd.func9, Tryd.ntmps9
  go_wp2_with (first | ((with_reducible refine gate_callee (f := 10) rfl ?_); refine goesL_ (some 4) rfl rfl Tryd.func10 (by kernel_rfl) rfl #[.string (⟨#[48, 45, 53, 44, 55]⟩ : ByteArray)] rfl qM_ ?_; (with_reducible refine (spans_Read.calls (⟨#[48, 45, 53, 44, 55]⟩ : ByteArray) t106 false _ A1.out (Wd.of hWd_ (qdb35_ HB.out))).mono ?_); rintro e w22 ⟨v108, rfl, ho0, hb⟩; refine ⟨_, rfl, ?_⟩; have n0_ := Aside0.mk (Kd.R_lower ho0 (below_size (qdb35_ HB.out))); have n1_ := Aside0.mk (below_step (qdb35_ HB.out) hb); clear HB; have HO109 := n0_; have HB := n1_; clear n0_ n1_; (try clear hb); (try clear hb2); (try clear hk); (try clear hi); (try clear ho0)))
  go_ret
  exact ⟨by first | rfl | (simp [errW_none, errW_some] <;> rfl) | (simp [*, errW_none, errW_some] <;> rfl), (qdb35_ HB.out)⟩

/-! ### caravanref1_MaySpans: function 15 -/
def caravanref1_MaySpans.l0 : Nat → List (S31) → Int → Option (Bool)
 | 0, _, _ => none
 | k + 1, x0, x3 => if x3 < (x0.length : Int) then (if 0 ≤ x3 then (if ((rd_T31 x0 x3).f0) < 0 then (some false) else (if ((rd_T31 x0 x3).f1) < ((rd_T31 x0 x3).f0) then (some false) else (if ((rd_T31 x0 x3).f1) ≥ 16384 then (some false) else (if x3 > 0 then (if 0 ≤ (wrap64 (x3 - 1)) then (if (wrap64 (x3 - 1)) < (x0.length : Int) then (if ((rd_T31 x0 x3).f0) ≤ (wrap64 (((rd_T31 x0 (wrap64 (x3 - 1))).f1) + 1)) then (some false) else (caravanref1_MaySpans.l0 k x0 (wrap64 (x3 + 1)))) else (none)) else (none)) else (caravanref1_MaySpans.l0 k x0 (wrap64 (x3 + 1))))))) else (none)) else (some true)
def caravanref1_MaySpans.f (k : Nat) (l0 : List (S31)) : Option (Bool) := caravanref1_MaySpans.l0 k l0 0
theorem caravanref1_MaySpans.mono_l : ∀ k, (∀ y0 y1, LeO (caravanref1_MaySpans.l0 k y0 y1) (caravanref1_MaySpans.l0 (k + 1) y0 y1))
 | 0 => fun _ _ r h => by simp [caravanref1_MaySpans.l0] at h
 | k + 1 => by
  have ih0 := caravanref1_MaySpans.mono_l k
  ·intro y0 y1
   unfold caravanref1_MaySpans.l0
   repeat' first
   | (with_reducible exact ih0 _ _)
   | (with_reducible exact LeO.refl _)
   | (with_reducible exact LeO.none _)
   | (with_reducible refine LeO.ite ?_ ?_)
   | (with_reducible refine LeO.bind ?_ (fun _ => ?_))
   | exact ih0 _ _
   | exact LeO.none _
   | refine LeO.ite ?_ ?_
   | refine LeO.bind ?_ (fun _ => ?_)
theorem caravanref1_MaySpans.mono : ∀ a0 k, LeO (caravanref1_MaySpans.f k a0) (caravanref1_MaySpans.f (k + 1) a0) := by
 intro a0 k
 have ih0 := caravanref1_MaySpans.mono_l k
 unfold caravanref1_MaySpans.f
 repeat' first
  | (with_reducible exact ih0 _ _)
  | (with_reducible exact LeO.refl _)
  | (with_reducible exact LeO.none _)
  | (with_reducible refine LeO.ite ?_ ?_)
  | (with_reducible refine LeO.bind ?_ (fun _ => ?_))
  | exact ih0 _ _
  | exact LeO.none _
  | refine LeO.ite ?_ ?_
  | refine LeO.bind ?_ (fun _ => ?_)
set_option maxHeartbeats 8000000 in
set_option maxRecDepth 100000 in
theorem caravanref1_MaySpans.calls (k : Nat) (A0 : Option Addr) (c0 : Nat) (l0 : List (S31)) (r : Bool) (w : World) (hr0 : Kd.C k31 w A0 l0.length l0) (hc0 : l0.length ≤ c0) (h : caravanref1_MaySpans.f k l0 = some r) :
 Calls Tryd.prog 15 #[.slice A0 l0.length c0] w fun e w' => e = .returned (.bool r) ∧ Drawn0 w w' := by
 have HR0 := Aside0.mk hr0
 have HC0 := Aside0.mk hc0
 clear hr0 hc0
 have H : (caravanref1_MaySpans.l0 k l0 0) = some r := h
 clear h
 have H' := Aside0.mk H
 clear H
 go_enter Tryd.func15, Tryd.ntmps15
 go_wp2
 repeat (go_quiet (fail); try go_wp2)
 go_loopg [3] k (fun kq v3 w' => ∃ (x3_1 : Int), v3 = .int .i64 x3_1 ∧ Aside0 (caravanref1_MaySpans.l0 kq l0 x3_1 = some r) ∧ Aside0 (kq ≤ k) ∧ Drawn0 w w')
 case atStart => exact ⟨(0), (by first | rfl | (simp; done) | (simp [*]; done)), H', ⟨Nat.le_refl _⟩, (by repeat (first | exact Drawn0.refl _ | apply Drawn0.step))⟩
 case round =>
  clear H'
  try clear c1
  obtain ⟨x3_1, rfl, HA, HK1, ⟨m1, rfl⟩⟩ := hrel
  cases gk with
  | zero => exact absurd HA.out (by simp [caravanref1_MaySpans.l0])
  | succ k1 =>
   have H := HA.out
   clear HA
   simp only [caravanref1_MaySpans.l0] at H
   by_cases c2 : x3_1 < (l0.length : Int)
   ·rw [if_pos c2] at H
    have c2b0 : decide (x3_1 < (l0.length : Int)) = true := decide_eq_true c2
    clear c2
    by_cases c3 : 0 ≤ x3_1
    ·rw [if_pos c3] at H
     have c3b0 : decide (0 ≤ x3_1) = true := decide_eq_true c3
     clear c3
     by_cases c4 : ((rd_T31 l0 x3_1).f0) < 0
     ·rw [if_pos c4] at H
      have c4b0 : decide (((rd_T31 l0 x3_1).f0) < 0) = true := decide_eq_true c4
      clear c4
      obtain rfl := Option.some.inj H
      have p115 : 0 ≤ (x3_1 : Int) := of_decide_eq_true (by first | (with_reducible assumption) | assumption)
      have q115 : x3_1 < (l0.length : Int) := of_decide_eq_true (by first | (with_reducible assumption) | assumption)
      obtain ⟨ad115, e115, hx115_0, hx115_1⟩ := at_T31 HR0.out x3_1 p115 q115
      cases e115
      replace p115 := eq_true p115
      replace q115 := eq_true q115
      go_wp2
      repeat (go_quiet (fail); try go_wp2)
      go_ret
      exact ⟨by first | rfl | (simp; done) | (simp [*]; done), (by repeat (first | exact Drawn0.refl _ | apply Drawn0.step))⟩
     ·rw [if_neg c4] at H
      have c4b0 : decide (((rd_T31 l0 x3_1).f0) < 0) = false := decide_eq_false c4
      clear c4
      by_cases c5 : ((rd_T31 l0 x3_1).f1) < ((rd_T31 l0 x3_1).f0)
      ·rw [if_pos c5] at H
       have c5b0 : decide (((rd_T31 l0 x3_1).f1) < ((rd_T31 l0 x3_1).f0)) = true := decide_eq_true c5
       clear c5
       obtain rfl := Option.some.inj H
       have p115 : 0 ≤ (x3_1 : Int) := of_decide_eq_true (by first | (with_reducible assumption) | assumption)
       have q115 : x3_1 < (l0.length : Int) := of_decide_eq_true (by first | (with_reducible assumption) | assumption)
       obtain ⟨ad115, e115, hx115_0, hx115_1⟩ := at_T31 HR0.out x3_1 p115 q115
       cases e115
       replace p115 := eq_true p115
       replace q115 := eq_true q115
       have p116 : 0 ≤ (x3_1 : Int) := of_decide_eq_true (by first | (with_reducible assumption) | assumption)
       have q116 : x3_1 < (l0.length : Int) := of_decide_eq_true (by first | (with_reducible assumption) | assumption)
       obtain ⟨ad116, e116, hx116_0, hx116_1⟩ := at_T31 HR0.out x3_1 p116 q116
       obtain rfl : ad115 = ad116 := (by injection e116)
       replace p116 := eq_true p116
       replace q116 := eq_true q116
       have p117 : 0 ≤ (x3_1 : Int) := of_decide_eq_true (by first | (with_reducible assumption) | assumption)
       have q117 : x3_1 < (l0.length : Int) := of_decide_eq_true (by first | (with_reducible assumption) | assumption)
       obtain ⟨ad117, e117, hx117_0, hx117_1⟩ := at_T31 HR0.out x3_1 p117 q117
       obtain rfl : ad115 = ad117 := (by injection e117)
       replace p117 := eq_true p117
       replace q117 := eq_true q117
       go_wp2
       repeat (go_quiet (fail); try go_wp2)
       go_ret
       exact ⟨by first | rfl | (simp; done) | (simp [*]; done), (by repeat (first | exact Drawn0.refl _ | apply Drawn0.step))⟩
      ·rw [if_neg c5] at H
       have c5b0 : decide (((rd_T31 l0 x3_1).f1) < ((rd_T31 l0 x3_1).f0)) = false := decide_eq_false c5
       clear c5
       by_cases c6 : ((rd_T31 l0 x3_1).f1) ≥ 16384
       ·rw [if_pos c6] at H
        have c6b0 : decide (16384 ≤ ((rd_T31 l0 x3_1).f1)) = true := decide_eq_true c6
        clear c6
        obtain rfl := Option.some.inj H
        have p115 : 0 ≤ (x3_1 : Int) := of_decide_eq_true (by first | (with_reducible assumption) | assumption)
        have q115 : x3_1 < (l0.length : Int) := of_decide_eq_true (by first | (with_reducible assumption) | assumption)
        obtain ⟨ad115, e115, hx115_0, hx115_1⟩ := at_T31 HR0.out x3_1 p115 q115
        cases e115
        replace p115 := eq_true p115
        replace q115 := eq_true q115
        have p116 : 0 ≤ (x3_1 : Int) := of_decide_eq_true (by first | (with_reducible assumption) | assumption)
        have q116 : x3_1 < (l0.length : Int) := of_decide_eq_true (by first | (with_reducible assumption) | assumption)
        obtain ⟨ad116, e116, hx116_0, hx116_1⟩ := at_T31 HR0.out x3_1 p116 q116
        obtain rfl : ad115 = ad116 := (by injection e116)
        replace p116 := eq_true p116
        replace q116 := eq_true q116
        have p117 : 0 ≤ (x3_1 : Int) := of_decide_eq_true (by first | (with_reducible assumption) | assumption)
        have q117 : x3_1 < (l0.length : Int) := of_decide_eq_true (by first | (with_reducible assumption) | assumption)
        obtain ⟨ad117, e117, hx117_0, hx117_1⟩ := at_T31 HR0.out x3_1 p117 q117
        obtain rfl : ad115 = ad117 := (by injection e117)
        replace p117 := eq_true p117
        replace q117 := eq_true q117
        have p118 : 0 ≤ (x3_1 : Int) := of_decide_eq_true (by first | (with_reducible assumption) | assumption)
        have q118 : x3_1 < (l0.length : Int) := of_decide_eq_true (by first | (with_reducible assumption) | assumption)
        obtain ⟨ad118, e118, hx118_0, hx118_1⟩ := at_T31 HR0.out x3_1 p118 q118
        obtain rfl : ad115 = ad118 := (by injection e118)
        replace p118 := eq_true p118
        replace q118 := eq_true q118
        go_wp2
        repeat (go_quiet (fail); try go_wp2)
        go_ret
        exact ⟨by first | rfl | (simp; done) | (simp [*]; done), (by repeat (first | exact Drawn0.refl _ | apply Drawn0.step))⟩
       ·rw [if_neg c6] at H
        have c6b0 : decide (16384 ≤ ((rd_T31 l0 x3_1).f1)) = false := decide_eq_false c6
        clear c6
        by_cases c7 : x3_1 > 0
        ·rw [if_pos c7] at H
         have c7b0 : decide (0 < x3_1) = true := decide_eq_true c7
         clear c7
         obtain ⟨ji8, hji8⟩ : ∃ j_ : Int, (wrap64 (x3_1 - 1)) = j_ := ⟨_, rfl⟩
         replace H : (if 0 ≤ (ji8) then (if (ji8) < (l0.length : Int) then (if ((rd_T31 l0 x3_1).f0) ≤ (wrap64 (((rd_T31 l0 (ji8)).f1) + 1)) then (some false) else (caravanref1_MaySpans.l0 k1 l0 (wrap64 (x3_1 + 1)))) else (none)) else (none)) = some r := by first | (rw [hji8] at H; exact H) | (simp only [hji8] at H ⊢; exact H)
         have hji8w : (IntKind.i64.wrap (x3_1 - 1)) = ji8 := (i64_w _).trans hji8
         by_cases c9 : 0 ≤ (ji8)
         ·rw [if_pos c9] at H
          have c9b0 : decide (0 ≤ (ji8)) = true := decide_eq_true c9
          clear c9
          by_cases c10 : (ji8) < (l0.length : Int)
          ·rw [if_pos c10] at H
           have c10b0 : decide ((ji8) < (l0.length : Int)) = true := decide_eq_true c10
           clear c10
           by_cases c11 : ((rd_T31 l0 x3_1).f0) ≤ (wrap64 (((rd_T31 l0 (ji8)).f1) + 1))
           ·rw [if_pos c11] at H
            have c11b0 : decide (((rd_T31 l0 x3_1).f0) ≤ (wrap64 (((rd_T31 l0 (ji8)).f1) + 1))) = true := decide_eq_true c11
            clear c11
            obtain rfl := Option.some.inj H
            have p115 : 0 ≤ (x3_1 : Int) := of_decide_eq_true (by first | (with_reducible assumption) | assumption)
            have q115 : x3_1 < (l0.length : Int) := of_decide_eq_true (by first | (with_reducible assumption) | assumption)
            obtain ⟨ad115, e115, hx115_0, hx115_1⟩ := at_T31 HR0.out x3_1 p115 q115
            cases e115
            replace p115 := eq_true p115
            replace q115 := eq_true q115
            have p116 : 0 ≤ (x3_1 : Int) := of_decide_eq_true (by first | (with_reducible assumption) | assumption)
            have q116 : x3_1 < (l0.length : Int) := of_decide_eq_true (by first | (with_reducible assumption) | assumption)
            obtain ⟨ad116, e116, hx116_0, hx116_1⟩ := at_T31 HR0.out x3_1 p116 q116
            obtain rfl : ad115 = ad116 := (by injection e116)
            replace p116 := eq_true p116
            replace q116 := eq_true q116
            have p117 : 0 ≤ (x3_1 : Int) := of_decide_eq_true (by first | (with_reducible assumption) | assumption)
            have q117 : x3_1 < (l0.length : Int) := of_decide_eq_true (by first | (with_reducible assumption) | assumption)
            obtain ⟨ad117, e117, hx117_0, hx117_1⟩ := at_T31 HR0.out x3_1 p117 q117
            obtain rfl : ad115 = ad117 := (by injection e117)
            replace p117 := eq_true p117
            replace q117 := eq_true q117
            have p118 : 0 ≤ (x3_1 : Int) := of_decide_eq_true (by first | (with_reducible assumption) | assumption)
            have q118 : x3_1 < (l0.length : Int) := of_decide_eq_true (by first | (with_reducible assumption) | assumption)
            obtain ⟨ad118, e118, hx118_0, hx118_1⟩ := at_T31 HR0.out x3_1 p118 q118
            obtain rfl : ad115 = ad118 := (by injection e118)
            replace p118 := eq_true p118
            replace q118 := eq_true q118
            have p119 : 0 ≤ (x3_1 : Int) := of_decide_eq_true (by first | (with_reducible assumption) | assumption)
            have q119 : x3_1 < (l0.length : Int) := of_decide_eq_true (by first | (with_reducible assumption) | assumption)
            obtain ⟨ad119, e119, hx119_0, hx119_1⟩ := at_T31 HR0.out x3_1 p119 q119
            obtain rfl : ad115 = ad119 := (by injection e119)
            replace p119 := eq_true p119
            replace q119 := eq_true q119
            have p120 : 0 ≤ ((ji8) : Int) := of_decide_eq_true (by first | (with_reducible assumption) | assumption)
            have q120 : (ji8) < (l0.length : Int) := of_decide_eq_true (by first | (with_reducible assumption) | assumption)
            obtain ⟨ad120, e120, hx120_0, hx120_1⟩ := at_T31 HR0.out (ji8) p120 q120
            obtain rfl : ad115 = ad120 := (by injection e120)
            replace p120 := eq_true p120
            replace q120 := eq_true q120
            go_wp2
            repeat (go_quiet (fail); try go_wp2)
            go_ret
            exact ⟨by first | rfl | (simp; done) | (simp only [← hji8] <;> (first | rfl | simp)) | (simp [*]; done), (by repeat (first | exact Drawn0.refl _ | apply Drawn0.step))⟩
           ·rw [if_neg c11] at H
            have c11b0 : decide (((rd_T31 l0 x3_1).f0) ≤ (wrap64 (((rd_T31 l0 (ji8)).f1) + 1))) = false := decide_eq_false c11
            clear c11
            have H' := Aside0.mk H
            clear H
            have p115 : 0 ≤ (x3_1 : Int) := of_decide_eq_true (by first | (with_reducible assumption) | assumption)
            have q115 : x3_1 < (l0.length : Int) := of_decide_eq_true (by first | (with_reducible assumption) | assumption)
            obtain ⟨ad115, e115, hx115_0, hx115_1⟩ := at_T31 HR0.out x3_1 p115 q115
            cases e115
            replace p115 := eq_true p115
            replace q115 := eq_true q115
            have p116 : 0 ≤ (x3_1 : Int) := of_decide_eq_true (by first | (with_reducible assumption) | assumption)
            have q116 : x3_1 < (l0.length : Int) := of_decide_eq_true (by first | (with_reducible assumption) | assumption)
            obtain ⟨ad116, e116, hx116_0, hx116_1⟩ := at_T31 HR0.out x3_1 p116 q116
            obtain rfl : ad115 = ad116 := (by injection e116)
            replace p116 := eq_true p116
            replace q116 := eq_true q116
            have p117 : 0 ≤ (x3_1 : Int) := of_decide_eq_true (by first | (with_reducible assumption) | assumption)
            have q117 : x3_1 < (l0.length : Int) := of_decide_eq_true (by first | (with_reducible assumption) | assumption)
            obtain ⟨ad117, e117, hx117_0, hx117_1⟩ := at_T31 HR0.out x3_1 p117 q117
            obtain rfl : ad115 = ad117 := (by injection e117)
            replace p117 := eq_true p117
            replace q117 := eq_true q117
            have p118 : 0 ≤ (x3_1 : Int) := of_decide_eq_true (by first | (with_reducible assumption) | assumption)
            have q118 : x3_1 < (l0.length : Int) := of_decide_eq_true (by first | (with_reducible assumption) | assumption)
            obtain ⟨ad118, e118, hx118_0, hx118_1⟩ := at_T31 HR0.out x3_1 p118 q118
            obtain rfl : ad115 = ad118 := (by injection e118)
            replace p118 := eq_true p118
            replace q118 := eq_true q118
            have p119 : 0 ≤ (x3_1 : Int) := of_decide_eq_true (by first | (with_reducible assumption) | assumption)
            have q119 : x3_1 < (l0.length : Int) := of_decide_eq_true (by first | (with_reducible assumption) | assumption)
            obtain ⟨ad119, e119, hx119_0, hx119_1⟩ := at_T31 HR0.out x3_1 p119 q119
            obtain rfl : ad115 = ad119 := (by injection e119)
            replace p119 := eq_true p119
            replace q119 := eq_true q119
            have p120 : 0 ≤ ((ji8) : Int) := of_decide_eq_true (by first | (with_reducible assumption) | assumption)
            have q120 : (ji8) < (l0.length : Int) := of_decide_eq_true (by first | (with_reducible assumption) | assumption)
            obtain ⟨ad120, e120, hx120_0, hx120_1⟩ := at_T31 HR0.out (ji8) p120 q120
            obtain rfl : ad115 = ad120 := (by injection e120)
            replace p120 := eq_true p120
            replace q120 := eq_true q120
            go_wp2
            repeat (go_quiet (fail); try go_wp2)
            go_roundg k1
            case measure => have := HK1.out; omega
            case rel => exact ⟨(wrap64 (x3_1 + 1)), (by first | rfl | (simp; done) | (simp [*]; done)), H', ⟨by have := HK1.out; omega⟩, (by repeat (first | exact Drawn0.refl _ | apply Drawn0.step))⟩
          ·rw [if_neg c10] at H
           exact absurd H (by simp)
         ·rw [if_neg c9] at H
          exact absurd H (by simp)
        ·rw [if_neg c7] at H
         have c7b0 : decide (0 < x3_1) = false := decide_eq_false c7
         clear c7
         have H' := Aside0.mk H
         clear H
         have p115 : 0 ≤ (x3_1 : Int) := of_decide_eq_true (by first | (with_reducible assumption) | assumption)
         have q115 : x3_1 < (l0.length : Int) := of_decide_eq_true (by first | (with_reducible assumption) | assumption)
         obtain ⟨ad115, e115, hx115_0, hx115_1⟩ := at_T31 HR0.out x3_1 p115 q115
         cases e115
         replace p115 := eq_true p115
         replace q115 := eq_true q115
         have p116 : 0 ≤ (x3_1 : Int) := of_decide_eq_true (by first | (with_reducible assumption) | assumption)
         have q116 : x3_1 < (l0.length : Int) := of_decide_eq_true (by first | (with_reducible assumption) | assumption)
         obtain ⟨ad116, e116, hx116_0, hx116_1⟩ := at_T31 HR0.out x3_1 p116 q116
         obtain rfl : ad115 = ad116 := (by injection e116)
         replace p116 := eq_true p116
         replace q116 := eq_true q116
         have p117 : 0 ≤ (x3_1 : Int) := of_decide_eq_true (by first | (with_reducible assumption) | assumption)
         have q117 : x3_1 < (l0.length : Int) := of_decide_eq_true (by first | (with_reducible assumption) | assumption)
         obtain ⟨ad117, e117, hx117_0, hx117_1⟩ := at_T31 HR0.out x3_1 p117 q117
         obtain rfl : ad115 = ad117 := (by injection e117)
         replace p117 := eq_true p117
         replace q117 := eq_true q117
         have p118 : 0 ≤ (x3_1 : Int) := of_decide_eq_true (by first | (with_reducible assumption) | assumption)
         have q118 : x3_1 < (l0.length : Int) := of_decide_eq_true (by first | (with_reducible assumption) | assumption)
         obtain ⟨ad118, e118, hx118_0, hx118_1⟩ := at_T31 HR0.out x3_1 p118 q118
         obtain rfl : ad115 = ad118 := (by injection e118)
         replace p118 := eq_true p118
         replace q118 := eq_true q118
         go_wp2
         repeat (go_quiet (fail); try go_wp2)
         go_roundg k1
         case measure => have := HK1.out; omega
         case rel => exact ⟨(wrap64 (x3_1 + 1)), (by first | rfl | (simp; done) | (simp [*]; done)), H', ⟨by have := HK1.out; omega⟩, (by repeat (first | exact Drawn0.refl _ | apply Drawn0.step))⟩
    ·rw [if_neg c3] at H
     exact absurd H (by simp)
   ·rw [if_neg c2] at H
    have c2b0 : decide (x3_1 < (l0.length : Int)) = false := decide_eq_false c2
    clear c2
    obtain rfl := Option.some.inj H
    go_wp2
    repeat (go_quiet (fail); try go_wp2)
    go_ret
    exact ⟨by first | rfl | (simp; done) | (simp [*]; done), (by repeat (first | exact Drawn0.refl _ | apply Drawn0.step))⟩

/-! ### caravanref1_Digits: function 13 -/
mutual
def caravanref1_Digits.j0 : Nat → Int → Int → ByteArray → Option (ByteArray)
 | 0, _, _, _ => none
 | k + 1, x0, x3, x4 => caravanref1_Digits.l0 k x0 x3 x4
def caravanref1_Digits.l0 : Nat → Int → Int → ByteArray → Option (ByteArray)
 | 0, _, _, _ => none
 | k + 1, x0, x3, x4 => if x3 ≥ 10 then ((some (([(IntKind.u64.wrap (48 + (Int.tmod x3 10))) % 256] : List Int) : List Int)).bind fun y121 => (if (strOfNums y121).size + x4.size ≤ 9223372036854775807 then (caravanref1_Digits.l0 k x0 (IntKind.u64.wrap (Int.tdiv x3 10)) ((strOfNums y121) ++ x4)) else (none))) else ((some (([(IntKind.u64.wrap (48 + x3)) % 256] : List Int) : List Int)).bind fun y124 => (if (strOfNums y124).size + x4.size ≤ 9223372036854775807 then (if x0 < 0 then (if 1 + ((strOfNums y124) ++ x4).size ≤ 9223372036854775807 then (some ((⟨#[45]⟩ : ByteArray) ++ ((strOfNums y124) ++ x4))) else (none)) else (some ((strOfNums y124) ++ x4))) else (none)))
end
def caravanref1_Digits.f (k : Nat) (a0 : Int) : Option (ByteArray) := if a0 < 0 then (caravanref1_Digits.j0 k a0 (IntKind.u64.wrap (-(IntKind.u64.wrap (a0)))) (⟨#[]⟩ : ByteArray)) else (caravanref1_Digits.j0 k a0 (IntKind.u64.wrap (a0)) (⟨#[]⟩ : ByteArray))
theorem caravanref1_Digits.mono_l : ∀ k, (∀ y0 y1 y2, LeO (caravanref1_Digits.j0 k y0 y1 y2) (caravanref1_Digits.j0 (k + 1) y0 y1 y2)) ∧ (∀ y0 y1 y2, LeO (caravanref1_Digits.l0 k y0 y1 y2) (caravanref1_Digits.l0 (k + 1) y0 y1 y2))
 | 0 => ⟨fun _ _ _ r h => by simp [caravanref1_Digits.j0] at h, fun _ _ _ r h => by simp [caravanref1_Digits.l0] at h⟩
 | k + 1 => by
  obtain ⟨ih0, ih1⟩ := caravanref1_Digits.mono_l k
  refine ⟨?_, ?_⟩
  ·intro y0 y1 y2
   unfold caravanref1_Digits.j0
   repeat' first
   | (with_reducible exact ih0 _ _ _)
   | (with_reducible exact ih1 _ _ _)
   | (with_reducible exact LeO.refl _)
   | (with_reducible exact LeO.none _)
   | (with_reducible refine LeO.ite ?_ ?_)
   | (with_reducible refine LeO.bind ?_ (fun _ => ?_))
   | exact ih0 _ _ _
   | exact ih1 _ _ _
   | exact LeO.none _
   | refine LeO.ite ?_ ?_
   | refine LeO.bind ?_ (fun _ => ?_)
  ·intro y0 y1 y2
   unfold caravanref1_Digits.l0
   repeat' first
   | (with_reducible exact ih0 _ _ _)
   | (with_reducible exact ih1 _ _ _)
   | (with_reducible exact LeO.refl _)
   | (with_reducible exact LeO.none _)
   | (with_reducible refine LeO.ite ?_ ?_)
   | (with_reducible refine LeO.bind ?_ (fun _ => ?_))
   | exact ih0 _ _ _
   | exact ih1 _ _ _
   | exact LeO.none _
   | refine LeO.ite ?_ ?_
   | refine LeO.bind ?_ (fun _ => ?_)
theorem caravanref1_Digits.mono : ∀ a0 k, LeO (caravanref1_Digits.f k a0) (caravanref1_Digits.f (k + 1) a0) := by
 intro a0 k
 obtain ⟨ih0, ih1⟩ := caravanref1_Digits.mono_l k
 unfold caravanref1_Digits.f
 repeat' first
  | (with_reducible exact ih0 _ _ _)
  | (with_reducible exact ih1 _ _ _)
  | (with_reducible exact LeO.refl _)
  | (with_reducible exact LeO.none _)
  | (with_reducible refine LeO.ite ?_ ?_)
  | (with_reducible refine LeO.bind ?_ (fun _ => ?_))
  | exact ih0 _ _ _
  | exact ih1 _ _ _
  | exact LeO.none _
  | refine LeO.ite ?_ ?_
  | refine LeO.bind ?_ (fun _ => ?_)
set_option maxHeartbeats 8000000 in
set_option maxRecDepth 100000 in
theorem caravanref1_Digits.calls (k : Nat) (a0 : Int) (r : ByteArray) (w : World) (h : caravanref1_Digits.f k a0 = some r) :
 Calls Tryd.prog 13 #[.int .i64 a0] w fun e w' => e = .returned (.string r) ∧ Below w.heap.size w w' := by
 have HB := Aside0.mk (Below.refl w.heap.size w)
 have H : (if a0 < 0 then (caravanref1_Digits.j0 k a0 (IntKind.u64.wrap (-(IntKind.u64.wrap (a0)))) (⟨#[]⟩ : ByteArray)) else (caravanref1_Digits.j0 k a0 (IntKind.u64.wrap (a0)) (⟨#[]⟩ : ByteArray))) = some r := h
 clear h
 have HC2 := Aside0.mk H
 clear H
 go_enter Tryd.func13, Tryd.ntmps13
 go_upto_if 8 with (fail)
 go_cut [3] (fun v3 wc => ∃ (kq : Nat) (x3_1 : Int), v3 = .int .u64 x3_1 ∧ Aside0 (caravanref1_Digits.j0 kq a0 x3_1 (⟨#[]⟩ : ByteArray) = some r) ∧ Aside0 (kq ≤ k) ∧ Aside0 (Below w.heap.size w wc))
 case first =>
  have H := HC2.out
  clear HC2
  by_cases c3 : a0 < 0
  ·rw [if_pos c3] at H
   have c3b0 : decide (a0 < 0) = true := decide_eq_true c3
   clear c3
   (first | rw [c3b0] | (simp only [i64_w, i32_w]; rw [c3b0]) | skip)
   have H' := Aside0.mk H
   clear H
   go_wp2
   go_meet
   case rel => exact ⟨_, (IntKind.u64.wrap (-(IntKind.u64.wrap (a0)))), (by first | rfl | (simp; done) | (simp [*]; done)), H', ⟨by first | omega | exact Nat.le_refl _⟩, ⟨(qdb35_ HB.out)⟩⟩
  ·rw [if_neg c3] at H
   have c3b0 : decide (a0 < 0) = false := decide_eq_false c3
   clear c3
   (first | rw [c3b0] | (simp only [i64_w, i32_w]; rw [c3b0]) | skip)
   have H' := Aside0.mk H
   clear H
   go_wp2
   go_meet
   case rel => exact ⟨_, (IntKind.u64.wrap (a0)), (by first | rfl | (simp; done) | (simp [*]; done)), H', ⟨by first | omega | exact Nat.le_refl _⟩, ⟨(qdb35_ HB.out)⟩⟩
 case rest =>
  clear HC2
  try clear c1
  try clear p2
  try clear c3
  try clear c3b0
  obtain ⟨kq, x3_1, rfl, HA, HJ1, HB⟩ := hcut
  cases kq with
  | zero => exact absurd HA.out (by simp [caravanref1_Digits.j0])
  | succ kj1 =>
   have H := HA.out
   clear HA
   simp only [caravanref1_Digits.j0] at H
   have H' := Aside0.mk H
   clear H
   go_wp2
   go_loopg [3, 4] kj1 (fun kq v3 v4 w' => ∃ (x3_2 : Int) (x4_2 : ByteArray), v3 = .int .u64 x3_2 ∧ v4 = .string x4_2 ∧ Aside0 (caravanref1_Digits.l0 kq a0 x3_2 x4_2 = some r) ∧ Aside0 (kq ≤ kj1) ∧ Aside0 (Below w.heap.size w w'))
   case atStart => exact ⟨(x3_1), ((⟨#[]⟩ : ByteArray)), (by first | rfl | (simp; done) | (simp [*]; done)), (by first | rfl | (simp; done) | (simp [*]; done)), H', ⟨Nat.le_refl _⟩, ⟨(qdb35_ HB.out)⟩⟩
   case round =>
    clear H'
    try clear c1
    try clear p2
    try clear c3
    try clear c3b0
    try clear p2
    obtain ⟨x3_2, x4_2, rfl, rfl, HA, HK2, HB⟩ := hrel
    cases gk with
    | zero => exact absurd HA.out (by simp [caravanref1_Digits.l0])
    | succ k2 =>
     have H := HA.out
     clear HA
     simp only [caravanref1_Digits.l0] at H
     by_cases c4 : x3_2 ≥ 10
     ·rw [if_pos c4] at H
      have c4b0 : decide (10 ≤ x3_2) = true := decide_eq_true c4
      clear c4
      obtain ⟨y121, hy121⟩ : ∃ y_ : List Int, y_ = (([(IntKind.u64.wrap (48 + (Int.tmod x3_2 10))) % 256] : List Int)) := ⟨_, rfl⟩
      replace H : (if (strOfNums y121).size + x4_2.size ≤ 9223372036854775807 then (caravanref1_Digits.l0 k2 a0 (IntKind.u64.wrap (Int.tdiv x3_2 10)) ((strOfNums y121) ++ x4_2)) else (none)) = some r := by first | (rw [hy121]; with_reducible exact H) | (have H2_ := (Option.bind_some _ _).symm.trans H; rw [hy121]; with_reducible exact H2_) | (have H2_ := (Option.bind_some _ _).symm.trans H; with_reducible exact H2_) | with_reducible exact H | (rw [hy121]; exact H) | exact H
      have Ny121 := Aside0.mk hy121
      clear hy121
      by_cases c5 : (strOfNums y121).size + x4_2.size ≤ 9223372036854775807
      ·rw [if_pos c5] at H
       have c5b0 := eq_true c5
       have c5b1 : decide ((strOfNums y121).size + x4_2.size ≤ 9223372036854775807) = true := decide_eq_true c5
       try have c5b2 : (9223372036854775807 < (strOfNums y121).size + x4_2.size) = False := eq_false (Nat.not_lt.2 c5)
       have H' := Aside0.mk H
       clear H
       go_wp2_with (first | ((with_reducible refine gate_dst (N := 17) rfl ?_); refine Kd.R_lit (Kd.int .u8) _ 5 ?hg (N := 17) ?hd (xs := ([(IntKind.u64.wrap (48 + (Int.tmod x3_2 10))) % 256] : List Int)) (inner := [.int .u8 ((IntKind.u64.wrap (48 + (Int.tmod x3_2 10))) % 256)]) (ok := fun _ => True) (okp := fun _ => True) ?hr ?hp (fun _ hk => hk) trivial (Below.refl _ _) (Nat.le_refl _) (by simp) ?_; (case hd => rfl); (case hg => rfl); (case hr => first | (go_simp; done) | (go_simp; rfl)); (case hp => exact (Reps.one (show Kd.M (Kd.int .u8) _ _ _ ((IntKind.u64.wrap (48 + (Int.tmod x3_2 10))) % 256) [.int .u8 ((IntKind.u64.wrap (48 + (Int.tmod x3_2 10))) % 256)] from rfl) (Reps.none _ _))); intro v122 w6 ho7 hb hg_ hnew_; clear hg_ hnew_; (first | rw [← Ny121.out] at ho7 | (simp only [Int.reduceToNat] at ho7; rw [← Ny121.out] at ho7)); have n0_ := Aside0.mk (Kd.R_lower ho7 (below_size (qdb35_ HB.out))); have n1_ := Aside0.mk (below_step (qdb35_ HB.out) hb); clear HB; have HO123 := n0_; have HB := n1_; clear n0_ n1_; clear hb ho7; have hcv8 := own_string (P := Tryd.prog) Tryd.underlying56 Tryd.underlying5 Tryd.underlying9 (Kd.own_of_R HO123.out)))
       go_roundg k2
       case measure => have := HJ1.out; have := HK2.out; omega
       case rel => exact ⟨(IntKind.u64.wrap (Int.tdiv x3_2 10)), ((strOfNums y121) ++ x4_2), (by first | rfl | (simp; done) | (simp [*]; done)), (by first | rfl | (simp; done) | (simp [*]; done)), H', ⟨by have := HJ1.out; have := HK2.out; omega⟩, ⟨(qdb35_ HB.out)⟩⟩
      ·rw [if_neg c5] at H
       exact absurd H (by simp)
     ·rw [if_neg c4] at H
      have c4b0 : decide (10 ≤ x3_2) = false := decide_eq_false c4
      clear c4
      obtain ⟨y124, hy124⟩ : ∃ y_ : List Int, y_ = (([(IntKind.u64.wrap (48 + x3_2)) % 256] : List Int)) := ⟨_, rfl⟩
      replace H : (if (strOfNums y124).size + x4_2.size ≤ 9223372036854775807 then (if a0 < 0 then (if 1 + ((strOfNums y124) ++ x4_2).size ≤ 9223372036854775807 then (some ((⟨#[45]⟩ : ByteArray) ++ ((strOfNums y124) ++ x4_2))) else (none)) else (some ((strOfNums y124) ++ x4_2))) else (none)) = some r := by first | (rw [hy124]; with_reducible exact H) | (have H2_ := (Option.bind_some _ _).symm.trans H; rw [hy124]; with_reducible exact H2_) | (have H2_ := (Option.bind_some _ _).symm.trans H; with_reducible exact H2_) | with_reducible exact H | (rw [hy124]; exact H) | exact H
      have Ny124 := Aside0.mk hy124
      clear hy124
      by_cases c9 : (strOfNums y124).size + x4_2.size ≤ 9223372036854775807
      ·rw [if_pos c9] at H
       have c9b0 := eq_true c9
       have c9b1 : decide ((strOfNums y124).size + x4_2.size ≤ 9223372036854775807) = true := decide_eq_true c9
       try have c9b2 : (9223372036854775807 < (strOfNums y124).size + x4_2.size) = False := eq_false (Nat.not_lt.2 c9)
       by_cases c10 : a0 < 0
       ·rw [if_pos c10] at H
        have c10b0 : decide (a0 < 0) = true := decide_eq_true c10
        clear c10
        by_cases c11 : 1 + ((strOfNums y124) ++ x4_2).size ≤ 9223372036854775807
        ·rw [if_pos c11] at H
         have c11b0 := eq_true c11
         have c11b1 : decide (1 + ((strOfNums y124) ++ x4_2).size ≤ 9223372036854775807) = true := decide_eq_true c11
         try have c11b2 : (9223372036854775807 < 1 + ((strOfNums y124) ++ x4_2).size) = False := eq_false (Nat.not_lt.2 c11)
         try (have c11b3 := c11b2; simp only [ByteArray.size_append] at c11b3)
         obtain rfl := Option.some.inj H
         go_wp2_with (first | ((with_reducible refine gate_dst (N := 26) rfl ?_); refine Kd.R_lit (Kd.int .u8) _ 5 ?hg (N := 26) ?hd (xs := ([(IntKind.u64.wrap (48 + x3_2)) % 256] : List Int)) (inner := [.int .u8 ((IntKind.u64.wrap (48 + x3_2)) % 256)]) (ok := fun _ => True) (okp := fun _ => True) ?hr ?hp (fun _ hk => hk) trivial (Below.refl _ _) (Nat.le_refl _) (by simp) ?_; (case hd => rfl); (case hg => rfl); (case hr => first | (go_simp; done) | (go_simp; rfl)); (case hp => exact (Reps.one (show Kd.M (Kd.int .u8) _ _ _ ((IntKind.u64.wrap (48 + x3_2)) % 256) [.int .u8 ((IntKind.u64.wrap (48 + x3_2)) % 256)] from rfl) (Reps.none _ _))); intro v125 w12 ho13 hb hg_ hnew_; clear hg_ hnew_; (first | rw [← Ny124.out] at ho13 | (simp only [Int.reduceToNat] at ho13; rw [← Ny124.out] at ho13)); have n0_ := Aside0.mk (Kd.R_lower ho13 (below_size (qdb35_ HB.out))); have n1_ := Aside0.mk (below_step (qdb35_ HB.out) hb); clear HB; have HO126 := n0_; have HB := n1_; clear n0_ n1_; clear hb ho13; have hcv14 := own_string (P := Tryd.prog) Tryd.underlying56 Tryd.underlying5 Tryd.underlying9 (Kd.own_of_R HO126.out)))
         go_ret
         exact ⟨by first | rfl | (simp [errW_none, errW_some] <;> rfl) | (simp [*, errW_none, errW_some] <;> rfl), (qdb35_ HB.out)⟩
        ·rw [if_neg c11] at H
         exact absurd H (by simp)
       ·rw [if_neg c10] at H
        have c10b0 : decide (a0 < 0) = false := decide_eq_false c10
        clear c10
        obtain rfl := Option.some.inj H
        go_wp2_with (first | ((with_reducible refine gate_dst (N := 26) rfl ?_); refine Kd.R_lit (Kd.int .u8) _ 5 ?hg (N := 26) ?hd (xs := ([(IntKind.u64.wrap (48 + x3_2)) % 256] : List Int)) (inner := [.int .u8 ((IntKind.u64.wrap (48 + x3_2)) % 256)]) (ok := fun _ => True) (okp := fun _ => True) ?hr ?hp (fun _ hk => hk) trivial (Below.refl _ _) (Nat.le_refl _) (by simp) ?_; (case hd => rfl); (case hg => rfl); (case hr => first | (go_simp; done) | (go_simp; rfl)); (case hp => exact (Reps.one (show Kd.M (Kd.int .u8) _ _ _ ((IntKind.u64.wrap (48 + x3_2)) % 256) [.int .u8 ((IntKind.u64.wrap (48 + x3_2)) % 256)] from rfl) (Reps.none _ _))); intro v125 w15 ho16 hb hg_ hnew_; clear hg_ hnew_; (first | rw [← Ny124.out] at ho16 | (simp only [Int.reduceToNat] at ho16; rw [← Ny124.out] at ho16)); have n0_ := Aside0.mk (Kd.R_lower ho16 (below_size (qdb35_ HB.out))); have n1_ := Aside0.mk (below_step (qdb35_ HB.out) hb); clear HB; have HO126 := n0_; have HB := n1_; clear n0_ n1_; clear hb ho16; have hcv17 := own_string (P := Tryd.prog) Tryd.underlying56 Tryd.underlying5 Tryd.underlying9 (Kd.own_of_R HO126.out)))
        go_ret
        exact ⟨by first | rfl | (simp [errW_none, errW_some] <;> rfl) | (simp [*, errW_none, errW_some] <;> rfl), (qdb35_ HB.out)⟩
      ·rw [if_neg c9] at H
       exact absurd H (by simp)

/-! ### caravanref1_Has: function 19 -/
def caravanref1_Has.l0 : Nat → List (S31) → Int → Int → Option (Bool)
 | 0, _, _, _ => none
 | k + 1, x0, x1, x5 => if x5 < (x0.length : Int) then (if x1 ≥ 0 then (if x1 < 16384 then (if 0 ≤ x5 then (if ((rd_T31 x0 x5).f0) ≤ x1 then (if x1 ≤ ((rd_T31 x0 x5).f1) then (some true) else (caravanref1_Has.l0 k x0 x1 (wrap64 (x5 + 1)))) else (caravanref1_Has.l0 k x0 x1 (wrap64 (x5 + 1)))) else (none)) else (caravanref1_Has.l0 k x0 x1 (wrap64 (x5 + 1)))) else (caravanref1_Has.l0 k x0 x1 (wrap64 (x5 + 1)))) else (some false)
def caravanref1_Has.f (k : Nat) (l0 : List (S31)) (a1 : Int) : Option (Bool) := caravanref1_Has.l0 k l0 a1 0
theorem caravanref1_Has.mono_l : ∀ k, (∀ y0 y1 y2, LeO (caravanref1_Has.l0 k y0 y1 y2) (caravanref1_Has.l0 (k + 1) y0 y1 y2))
 | 0 => fun _ _ _ r h => by simp [caravanref1_Has.l0] at h
 | k + 1 => by
  have ih0 := caravanref1_Has.mono_l k
  ·intro y0 y1 y2
   unfold caravanref1_Has.l0
   repeat' first
   | (with_reducible exact ih0 _ _ _)
   | (with_reducible exact LeO.refl _)
   | (with_reducible exact LeO.none _)
   | (with_reducible refine LeO.ite ?_ ?_)
   | (with_reducible refine LeO.bind ?_ (fun _ => ?_))
   | exact ih0 _ _ _
   | exact LeO.none _
   | refine LeO.ite ?_ ?_
   | refine LeO.bind ?_ (fun _ => ?_)
theorem caravanref1_Has.mono : ∀ a0 a1 k, LeO (caravanref1_Has.f k a0 a1) (caravanref1_Has.f (k + 1) a0 a1) := by
 intro a0 a1 k
 have ih0 := caravanref1_Has.mono_l k
 unfold caravanref1_Has.f
 repeat' first
  | (with_reducible exact ih0 _ _ _)
  | (with_reducible exact LeO.refl _)
  | (with_reducible exact LeO.none _)
  | (with_reducible refine LeO.ite ?_ ?_)
  | (with_reducible refine LeO.bind ?_ (fun _ => ?_))
  | exact ih0 _ _ _
  | exact LeO.none _
  | refine LeO.ite ?_ ?_
  | refine LeO.bind ?_ (fun _ => ?_)
set_option maxHeartbeats 8000000 in
set_option maxRecDepth 100000 in
theorem caravanref1_Has.calls (k : Nat) (A0 : Option Addr) (c0 : Nat) (l0 : List (S31)) (a1 : Int) (r : Bool) (w : World) (hr0 : Kd.C k31 w A0 l0.length l0) (hc0 : l0.length ≤ c0) (h : caravanref1_Has.f k l0 a1 = some r) :
 Calls Tryd.prog 19 #[.slice A0 l0.length c0, .int .i64 a1] w fun e w' => e = .returned (.bool r) ∧ Drawn0 w w' := by
 have HR0 := Aside0.mk hr0
 have HC0 := Aside0.mk hc0
 clear hr0 hc0
 have H : (caravanref1_Has.l0 k l0 a1 0) = some r := h
 clear h
 have H' := Aside0.mk H
 clear H
 go_enter Tryd.func19, Tryd.ntmps19
 go_wp2
 go_loopg [5] k (fun kq v5 w' => ∃ (x5_1 : Int), v5 = .int .i64 x5_1 ∧ Aside0 (caravanref1_Has.l0 kq l0 a1 x5_1 = some r) ∧ Aside0 (kq ≤ k) ∧ Drawn0 w w')
 case atStart => exact ⟨(0), (by first | rfl | (simp; done) | (simp [*]; done)), H', ⟨Nat.le_refl _⟩, (by repeat (first | exact Drawn0.refl _ | apply Drawn0.step))⟩
 case round =>
  clear H'
  try clear c1
  try clear p2
  obtain ⟨x5_1, rfl, HA, HK1, ⟨m1, rfl⟩⟩ := hrel
  cases gk with
  | zero => exact absurd HA.out (by simp [caravanref1_Has.l0])
  | succ k1 =>
   have H := HA.out
   clear HA
   simp only [caravanref1_Has.l0] at H
   by_cases c3 : x5_1 < (l0.length : Int)
   ·rw [if_pos c3] at H
    have c3b0 : decide (x5_1 < (l0.length : Int)) = true := decide_eq_true c3
    clear c3
    by_cases c4 : a1 ≥ 0
    ·rw [if_pos c4] at H
     have c4b0 : decide (0 ≤ a1) = true := decide_eq_true c4
     clear c4
     by_cases c5 : a1 < 16384
     ·rw [if_pos c5] at H
      have c5b0 : decide (a1 < 16384) = true := decide_eq_true c5
      clear c5
      by_cases c6 : 0 ≤ x5_1
      ·rw [if_pos c6] at H
       have c6b0 : decide (0 ≤ x5_1) = true := decide_eq_true c6
       clear c6
       by_cases c7 : ((rd_T31 l0 x5_1).f0) ≤ a1
       ·rw [if_pos c7] at H
        have c7b0 : decide (((rd_T31 l0 x5_1).f0) ≤ a1) = true := decide_eq_true c7
        clear c7
        by_cases c8 : a1 ≤ ((rd_T31 l0 x5_1).f1)
        ·rw [if_pos c8] at H
         have c8b0 : decide (a1 ≤ ((rd_T31 l0 x5_1).f1)) = true := decide_eq_true c8
         clear c8
         obtain rfl := Option.some.inj H
         have p127 : 0 ≤ (x5_1 : Int) := of_decide_eq_true (by first | (with_reducible assumption) | assumption)
         have q127 : x5_1 < (l0.length : Int) := of_decide_eq_true (by first | (with_reducible assumption) | assumption)
         obtain ⟨ad127, e127, hx127_0, hx127_1⟩ := at_T31 HR0.out x5_1 p127 q127
         cases e127
         replace p127 := eq_true p127
         replace q127 := eq_true q127
         have p128 : 0 ≤ (x5_1 : Int) := of_decide_eq_true (by first | (with_reducible assumption) | assumption)
         have q128 : x5_1 < (l0.length : Int) := of_decide_eq_true (by first | (with_reducible assumption) | assumption)
         obtain ⟨ad128, e128, hx128_0, hx128_1⟩ := at_T31 HR0.out x5_1 p128 q128
         obtain rfl : ad127 = ad128 := (by injection e128)
         replace p128 := eq_true p128
         replace q128 := eq_true q128
         go_wp2
         go_ret
         exact ⟨by first | rfl | (simp; done) | (simp [*]; done), (by repeat (first | exact Drawn0.refl _ | apply Drawn0.step))⟩
        ·rw [if_neg c8] at H
         have c8b0 : decide (a1 ≤ ((rd_T31 l0 x5_1).f1)) = false := decide_eq_false c8
         clear c8
         have H' := Aside0.mk H
         clear H
         have p127 : 0 ≤ (x5_1 : Int) := of_decide_eq_true (by first | (with_reducible assumption) | assumption)
         have q127 : x5_1 < (l0.length : Int) := of_decide_eq_true (by first | (with_reducible assumption) | assumption)
         obtain ⟨ad127, e127, hx127_0, hx127_1⟩ := at_T31 HR0.out x5_1 p127 q127
         cases e127
         replace p127 := eq_true p127
         replace q127 := eq_true q127
         have p128 : 0 ≤ (x5_1 : Int) := of_decide_eq_true (by first | (with_reducible assumption) | assumption)
         have q128 : x5_1 < (l0.length : Int) := of_decide_eq_true (by first | (with_reducible assumption) | assumption)
         obtain ⟨ad128, e128, hx128_0, hx128_1⟩ := at_T31 HR0.out x5_1 p128 q128
         obtain rfl : ad127 = ad128 := (by injection e128)
         replace p128 := eq_true p128
         replace q128 := eq_true q128
         go_wp2
         go_roundg k1
         case measure => have := HK1.out; omega
         case rel => exact ⟨(wrap64 (x5_1 + 1)), (by first | rfl | (simp; done) | (simp [*]; done)), H', ⟨by have := HK1.out; omega⟩, (by repeat (first | exact Drawn0.refl _ | apply Drawn0.step))⟩
       ·rw [if_neg c7] at H
        have c7b0 : decide (((rd_T31 l0 x5_1).f0) ≤ a1) = false := decide_eq_false c7
        clear c7
        have H' := Aside0.mk H
        clear H
        have p127 : 0 ≤ (x5_1 : Int) := of_decide_eq_true (by first | (with_reducible assumption) | assumption)
        have q127 : x5_1 < (l0.length : Int) := of_decide_eq_true (by first | (with_reducible assumption) | assumption)
        obtain ⟨ad127, e127, hx127_0, hx127_1⟩ := at_T31 HR0.out x5_1 p127 q127
        cases e127
        replace p127 := eq_true p127
        replace q127 := eq_true q127
        go_wp2
        go_roundg k1
        case measure => have := HK1.out; omega
        case rel => exact ⟨(wrap64 (x5_1 + 1)), (by first | rfl | (simp; done) | (simp [*]; done)), H', ⟨by have := HK1.out; omega⟩, (by repeat (first | exact Drawn0.refl _ | apply Drawn0.step))⟩
      ·rw [if_neg c6] at H
       exact absurd H (by simp)
     ·rw [if_neg c5] at H
      have c5b0 : decide (a1 < 16384) = false := decide_eq_false c5
      clear c5
      have H' := Aside0.mk H
      clear H
      go_wp2
      go_roundg k1
      case measure => have := HK1.out; omega
      case rel => exact ⟨(wrap64 (x5_1 + 1)), (by first | rfl | (simp; done) | (simp [*]; done)), H', ⟨by have := HK1.out; omega⟩, (by repeat (first | exact Drawn0.refl _ | apply Drawn0.step))⟩
    ·rw [if_neg c4] at H
     have c4b0 : decide (0 ≤ a1) = false := decide_eq_false c4
     clear c4
     have H' := Aside0.mk H
     clear H
     go_wp2
     go_roundg k1
     case measure => have := HK1.out; omega
     case rel => exact ⟨(wrap64 (x5_1 + 1)), (by first | rfl | (simp; done) | (simp [*]; done)), H', ⟨by have := HK1.out; omega⟩, (by repeat (first | exact Drawn0.refl _ | apply Drawn0.step))⟩
   ·rw [if_neg c3] at H
    have c3b0 : decide (x5_1 < (l0.length : Int)) = false := decide_eq_false c3
    clear c3
    obtain rfl := Option.some.inj H
    go_wp2
    go_ret
    exact ⟨by first | rfl | (simp; done) | (simp [*]; done), (by repeat (first | exact Drawn0.refl _ | apply Drawn0.step))⟩

end Go.Proofs.YtnlakdpfkgjdaaaDoor.G
