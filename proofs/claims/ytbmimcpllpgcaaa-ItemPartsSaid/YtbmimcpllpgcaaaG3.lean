/- What functions of the translation come to, and their calls' proofs; by a program of mine over the kit's print, with contracts given by hand beside. Conditions: where a plain function tells none, nothing is said. -/
import Derived.Test.YtbmimcpllpgcaaaG0
import Derived.Test.YtbmimcpllpgcaaaG2
import Derived.Test.YtbmimcpllpgcaaaGMay
namespace Go.Proofs.Ytbmimcpllpgcaaa.G
open Go.RowKit Go.Proofs.YtbmimcpllpgcaaaW.PrintWords Go.Proofs.YtbmimcpllpgcaaaW.PrintLast Go.Proofs.YtbmimcpllpgcaaaW.PrintMore
attribute [local go_sem] max2_int min2_int max_two min_two max_three min_three max_four min_four   -- for this text's walks alone
set_option linter.unusedVariables false
set_option linter.unusedSimpArgs false

/-! ### caravanlaw5_awake: function 10 -/
def caravanlaw5_awake.f (k : Nat)  : Option (Bool) := (some (([(⟨#[97]⟩ : ByteArray)] : List ByteArray) : List ByteArray)).bind fun y118 => ((item_Type.f 0 (⟨#[]⟩ : ByteArray) ([] : List (S29)) ([] : List ByteArray) 0).bind fun t122 => (if t122.toList = ([110, 111, 110, 101] : List UInt8) then ((item_Type.f 3 (⟨#[]⟩ : ByteArray) ([] : List (S29)) y118 0).bind fun t123 => (if t123.toList = ([108, 105, 115, 116] : List UInt8) then ((item_May.f 3 (⟨#[]⟩ : ByteArray) ([] : List (S29)) y118 0).bind fun t124 => (if t124 = true then ((item_May.f 0 (⟨#[]⟩ : ByteArray) ([] : List (S29)) ([] : List ByteArray) 0).bind fun t125 => (if t125 = true then (some false) else ((item_Copy.f 3 (⟨#[]⟩ : ByteArray) ([] : List (S29)) y118 0).bind fun bt126 => ((item_Same.f k bt126.1 bt126.2.1 bt126.2.2.1 bt126.2.2.2.1 bt126.2.2.2.2 3 (⟨#[]⟩ : ByteArray) ([] : List (S29)) y118 0).bind fun t135 => (some t135))))) else (some false))) else (some false))) else (some false)))
theorem caravanlaw5_awake.mono : ∀ k, LeO (caravanlaw5_awake.f k ) (caravanlaw5_awake.f (k + 1) ) := by
 intro  k
 unfold caravanlaw5_awake.f
 repeat' first
  | (with_reducible exact item_Same.mono _ _ _ _ _ _ _ _ _ _ _)
  | (with_reducible exact LeO.refl _)
  | (with_reducible exact LeO.none _)
  | (with_reducible refine LeO.ite ?_ ?_)
  | (with_reducible refine LeO.bind ?_ (fun _ => ?_))
  | exact item_Same.mono _ _ _ _ _ _ _ _ _ _ _
  | exact LeO.none _
  | refine LeO.ite ?_ ?_
  | refine LeO.bind ?_ (fun _ => ?_)
def caravanlaw5_awake.T2 : Bool × List (List Nat × List Nat) := (true, [([], []), ([0], [0]), ([1], [1]), ([2, 1], [2]), ([3], [3]), ([4, 3, 3], [3, 4]), ([5, 3], [3, 5]), ([3, 6], [3, 6]), ([7, 5], [7]), ([8], [8]), ([9, 8, 8], [8, 9]), ([8, 10], [8, 10]), ([11, 10], [11]), ([12], [12]), ([13, 12, 12], [12, 13]), ([14, 12], [12, 14]), ([12, 15], [12, 15]), ([16, 14], [16]), ([17], [17]), ([18, 17, 17], [17, 18]), ([17], [17]), ([19, 20, 19, 17], [17, 19, 20]), ([17, 21], [17, 21]), ([22, 21, 0, 1, 2, 3, 4, 5, 6, 7, 8, 9, 10, 11, 12, 13, 14, 15, 16, 17, 18, 19, 20, 21, 22], [22])])
def caravanlaw5_awake.B2 : List Nat := [0, 1, 3, 7, 15, 31, 63, 127, 255, 511, 1023, 2047, 4095, 8191, 16383, 32767, 65535, 131071, 262143, 524287, 262143, 2097151, 4194303, 8388607]
theorem caravanlaw5_awake.tab2 : rtab .any (opsOf Try.f10 2) = caravanlaw5_awake.T2 := by kernel_rfl
theorem caravanlaw5_awake.bits2 : waitsOk caravanlaw5_awake.T2.2 caravanlaw5_awake.B2 = true := by kernel_rfl
set_option maxHeartbeats 8000000 in
set_option maxRecDepth 100000 in
theorem caravanlaw5_awake.calls (k : Nat)  (r : Bool) (w : World) (h : caravanlaw5_awake.f k  = some r) :
 Calls Try.prog 10 #[] w fun e w' => e = .returned (.bool r) ∧ Below w.heap.size w w' := by
 have hu26 := Try.underlying26
 have HB := Aside0.mk (Below.refl w.heap.size w)
 have H : ((some (([(⟨#[97]⟩ : ByteArray)] : List ByteArray) : List ByteArray)).bind fun y118 => ((item_Type.f 0 (⟨#[]⟩ : ByteArray) ([] : List (S29)) ([] : List ByteArray) 0).bind fun t122 => (if t122.toList = ([110, 111, 110, 101] : List UInt8) then ((item_Type.f 3 (⟨#[]⟩ : ByteArray) ([] : List (S29)) y118 0).bind fun t123 => (if t123.toList = ([108, 105, 115, 116] : List UInt8) then ((item_May.f 3 (⟨#[]⟩ : ByteArray) ([] : List (S29)) y118 0).bind fun t124 => (if t124 = true then ((item_May.f 0 (⟨#[]⟩ : ByteArray) ([] : List (S29)) ([] : List ByteArray) 0).bind fun t125 => (if t125 = true then (some false) else ((item_Copy.f 3 (⟨#[]⟩ : ByteArray) ([] : List (S29)) y118 0).bind fun bt126 => ((item_Same.f k bt126.1 bt126.2.1 bt126.2.2.1 bt126.2.2.2.1 bt126.2.2.2.2 3 (⟨#[]⟩ : ByteArray) ([] : List (S29)) y118 0).bind fun t135 => (some t135))))) else (some false))) else (some false))) else (some false)))) = some r := h
 clear h
 obtain ⟨y118, hy118⟩ : ∃ y_ : List ByteArray, y_ = (([(⟨#[97]⟩ : ByteArray)] : List ByteArray)) := ⟨_, rfl⟩
 replace H : ((item_Type.f 0 (⟨#[]⟩ : ByteArray) ([] : List (S29)) ([] : List ByteArray) 0).bind fun t122 => (if t122.toList = ([110, 111, 110, 101] : List UInt8) then ((item_Type.f 3 (⟨#[]⟩ : ByteArray) ([] : List (S29)) y118 0).bind fun t123 => (if t123.toList = ([108, 105, 115, 116] : List UInt8) then ((item_May.f 3 (⟨#[]⟩ : ByteArray) ([] : List (S29)) y118 0).bind fun t124 => (if t124 = true then ((item_May.f 0 (⟨#[]⟩ : ByteArray) ([] : List (S29)) ([] : List ByteArray) 0).bind fun t125 => (if t125 = true then (some false) else ((item_Copy.f 3 (⟨#[]⟩ : ByteArray) ([] : List (S29)) y118 0).bind fun bt126 => ((item_Same.f k bt126.1 bt126.2.1 bt126.2.2.1 bt126.2.2.2.1 bt126.2.2.2.2 3 (⟨#[]⟩ : ByteArray) ([] : List (S29)) y118 0).bind fun t135 => (some t135))))) else (some false))) else (some false))) else (some false))) = some r := by first | (rw [hy118]; with_reducible exact H) | (have H2_ := (Option.bind_some _ _).symm.trans H; rw [hy118]; with_reducible exact H2_) | (have H2_ := (Option.bind_some _ _).symm.trans H; with_reducible exact H2_) | with_reducible exact H | (rw [hy118]; exact H) | exact H
 have Ny118 := Aside0.mk hy118
 clear hy118
 replace H := Option.bind_eq_some_iff.mp H
 obtain ⟨t122, A10, H⟩ := H
 replace H : (if t122.toList = ([110, 111, 110, 101] : List UInt8) then ((item_Type.f 3 (⟨#[]⟩ : ByteArray) ([] : List (S29)) y118 0).bind fun t123 => (if t123.toList = ([108, 105, 115, 116] : List UInt8) then ((item_May.f 3 (⟨#[]⟩ : ByteArray) ([] : List (S29)) y118 0).bind fun t124 => (if t124 = true then ((item_May.f 0 (⟨#[]⟩ : ByteArray) ([] : List (S29)) ([] : List ByteArray) 0).bind fun t125 => (if t125 = true then (some false) else ((item_Copy.f 3 (⟨#[]⟩ : ByteArray) ([] : List (S29)) y118 0).bind fun bt126 => ((item_Same.f k bt126.1 bt126.2.1 bt126.2.2.1 bt126.2.2.2.1 bt126.2.2.2.2 3 (⟨#[]⟩ : ByteArray) ([] : List (S29)) y118 0).bind fun t135 => (some t135))))) else (some false))) else (some false))) else (some false)) = some r := H
 have A1 := Aside0.mk A10
 clear A10
 by_cases c2 : t122.toList = ([110, 111, 110, 101] : List UInt8)
 ·rw [if_pos c2] at H
  have c2b0 : (t122.toList == ([110, 111, 110, 101] : List UInt8)) = true := beq_iff_eq.mpr c2
  have c2b1 : (t122.toList != ([110, 111, 110, 101] : List UInt8)) = false := bne_eq_false_iff_eq.mpr c2
  clear c2
  replace H := Option.bind_eq_some_iff.mp H
  obtain ⟨t123, A30, H⟩ := H
  replace H : (if t123.toList = ([108, 105, 115, 116] : List UInt8) then ((item_May.f 3 (⟨#[]⟩ : ByteArray) ([] : List (S29)) y118 0).bind fun t124 => (if t124 = true then ((item_May.f 0 (⟨#[]⟩ : ByteArray) ([] : List (S29)) ([] : List ByteArray) 0).bind fun t125 => (if t125 = true then (some false) else ((item_Copy.f 3 (⟨#[]⟩ : ByteArray) ([] : List (S29)) y118 0).bind fun bt126 => ((item_Same.f k bt126.1 bt126.2.1 bt126.2.2.1 bt126.2.2.2.1 bt126.2.2.2.2 3 (⟨#[]⟩ : ByteArray) ([] : List (S29)) y118 0).bind fun t135 => (some t135))))) else (some false))) else (some false)) = some r := H
  have A3 := Aside0.mk A30
  clear A30
  by_cases c4 : t123.toList = ([108, 105, 115, 116] : List UInt8)
  ·rw [if_pos c4] at H
   have c4b0 : (t123.toList == ([108, 105, 115, 116] : List UInt8)) = true := beq_iff_eq.mpr c4
   have c4b1 : (t123.toList != ([108, 105, 115, 116] : List UInt8)) = false := bne_eq_false_iff_eq.mpr c4
   clear c4
   replace H := Option.bind_eq_some_iff.mp H
   obtain ⟨t124, A50, H⟩ := H
   replace H : (if t124 = true then ((item_May.f 0 (⟨#[]⟩ : ByteArray) ([] : List (S29)) ([] : List ByteArray) 0).bind fun t125 => (if t125 = true then (some false) else ((item_Copy.f 3 (⟨#[]⟩ : ByteArray) ([] : List (S29)) y118 0).bind fun bt126 => ((item_Same.f k bt126.1 bt126.2.1 bt126.2.2.1 bt126.2.2.2.1 bt126.2.2.2.2 3 (⟨#[]⟩ : ByteArray) ([] : List (S29)) y118 0).bind fun t135 => (some t135))))) else (some false)) = some r := H
   have A5 := Aside0.mk A50
   clear A50
   by_cases c6 : t124 = true
   ·subst c6
    have H1 : ((item_May.f 0 (⟨#[]⟩ : ByteArray) ([] : List (S29)) ([] : List ByteArray) 0).bind fun t125 => (if t125 = true then (some false) else ((item_Copy.f 3 (⟨#[]⟩ : ByteArray) ([] : List (S29)) y118 0).bind fun bt126 => ((item_Same.f k bt126.1 bt126.2.1 bt126.2.2.1 bt126.2.2.2.1 bt126.2.2.2.2 3 (⟨#[]⟩ : ByteArray) ([] : List (S29)) y118 0).bind fun t135 => (some t135))))) = some r := by rw [if_pos rfl] at H; exact H
    clear H
    have H := H1
    clear H1
    replace H := Option.bind_eq_some_iff.mp H
    obtain ⟨t125, A70, H⟩ := H
    replace H : (if t125 = true then (some false) else ((item_Copy.f 3 (⟨#[]⟩ : ByteArray) ([] : List (S29)) y118 0).bind fun bt126 => ((item_Same.f k bt126.1 bt126.2.1 bt126.2.2.1 bt126.2.2.2.1 bt126.2.2.2.2 3 (⟨#[]⟩ : ByteArray) ([] : List (S29)) y118 0).bind fun t135 => (some t135)))) = some r := H
    have A7 := Aside0.mk A70
    clear A70
    by_cases c8 : t125 = true
    ·subst c8
     have H1 : (some false) = some r := by rw [if_pos rfl] at H; exact H
     clear H
     have H := H1
     clear H1
     obtain rfl := Option.some.inj H
     go_enter Try.func10, Try.ntmps10
     try go_wp2_with (first | ((with_reducible refine gate_dst (N := 2) rfl ?_); refine Kd.R_lit Kd.string _ 9 ?hg (N := 2) ?hd (xs := ([(⟨#[97]⟩ : ByteArray)] : List ByteArray)) (inner := [.string (⟨#[97]⟩ : ByteArray)]) (ok := fun _ => True) (okp := fun _ => True) ?hr ?hp (fun _ hk => hk) trivial (Below.refl _ _) (Nat.le_refl _) (by simp) ?_; (case hd => rfl); (case hg => rfl); (case hr => first | (go_simp; done) | (go_simp; rfl)); (case hp => exact (Reps.one (show Kd.M Kd.string _ _ _ (⟨#[97]⟩ : ByteArray) [.string (⟨#[97]⟩ : ByteArray)] from rfl) (Reps.none _ _))); intro v119 w9 ho10 hb hg_ hnew_; clear hg_ hnew_; (first | rw [← Ny118.out] at ho10 | (simp only [Int.reduceToNat] at ho10; rw [← Ny118.out] at ho10)); have n0_ := Aside0.mk (Kd.R_lower ho10 (below_size (qdb35_ HB.out))); have n1_ := Aside0.mk (below_step (qdb35_ HB.out) hb); clear HB; have HO120 := n0_; have HB := n1_; clear n0_ n1_; clear hb ho10; obtain ⟨Ao11, co11, eo11⟩ := Kd.R_slice HO120.out; subst eo11) | ((with_reducible refine gate_dst (N := 1) rfl ?_); refine box_event ?hg (N := 1) ?hd (cs := #[.int .i64 0, .string (⟨#[]⟩ : ByteArray), .slice none 0 0, .slice none 0 0, .int .i64 0]) (t := 26) ?hr ?_; (case hd => rfl); (case hg => rfl); (case hr => first | (go_simp; done) | (go_simp; rfl)); intro gb121 hg w12 hbox hb; have n0_ := Aside0.mk (Kd.R_below (q8524_ HO120.out) hb); have n1_ := Aside0.mk (below_step (qdb35_ HB.out) hb); have n2_ := Aside0.mk (hbox); have n3_ := Aside0.mk ((by rw [hg]; exact (below_size (qdb35_ HB.out)) : w.heap.size ≤ gb121)); have n4_ := Aside0.mk ((by rw [hg]; exact (below_size (qdb35_ HB.out)) : w.heap.size ≤ gb121)); clear HO120; clear HB; have HO120 := n0_; have HB := n1_; have BK121 := n2_; have GW121 := n3_; have GE121 := n4_; clear n0_ n1_ n2_ n3_ n4_; clear hb hbox hg; have hcz13_0 : w12.cell? ⟨gb121, 0, none⟩ = some (.int .i64 0) := (blk_cell BK121.out 0).trans rfl; have hcz13_1 : w12.cell? ⟨gb121, 1, none⟩ = some (.string (⟨#[]⟩ : ByteArray)) := (blk_cell BK121.out 1).trans rfl; have hcz13_2 : w12.cell? ⟨gb121, 2, none⟩ = some (.slice none 0 0) := (blk_cell BK121.out 2).trans rfl; have hcz13_3 : w12.cell? ⟨gb121, 3, none⟩ = some (.slice none 0 0) := (blk_cell BK121.out 3).trans rfl; have hcz13_4 : w12.cell? ⟨gb121, 4, none⟩ = some (.int .i64 0) := (blk_cell BK121.out 4).trans rfl; have hfz13_0 := blk_frozen BK121.out 0; have hfz13_1 := blk_frozen BK121.out 1; have hfz13_2 := blk_frozen BK121.out 2; have hfz13_3 := blk_frozen BK121.out 3; have hfz13_4 := blk_frozen BK121.out 4))
     have n0_ : Aside0 (Kd.R Kd.string 9 (((((w12.setCell ⟨gb121, 0, none⟩ (.int .i64 3)).setCell ⟨gb121, 1, none⟩ (.string (⟨#[]⟩ : ByteArray))).setCell ⟨gb121, 2, none⟩ (.slice none 0 0)).setCell ⟨gb121, 3, none⟩ (.slice Ao11 y118.length co11)).setCell ⟨gb121, 4, none⟩ (.int .i64 0)) w.heap.size (fun _ => True) (.slice Ao11 y118.length co11) y118) := ⟨by (with_reducible repeat (first | apply Kd.R_alloc | apply Kd.R_drewN | apply Kd.R_drew)); exact Kd.R_mono (Kd.R_far (p := ⟨gb121, 4, none⟩) (Kd.R_far (p := ⟨gb121, 3, none⟩) (Kd.R_far (p := ⟨gb121, 2, none⟩) (Kd.R_far (p := ⟨gb121, 1, none⟩) (Kd.R_far (p := ⟨gb121, 0, none⟩) (Kd.R_types HO120.out BK121.out (by decide)) (fun _ hk => hk.2) (.int .i64 3)) (fun _ hk => hk.2) (.string (⟨#[]⟩ : ByteArray))) (fun _ hk => hk.2) (.slice none 0 0)) (fun _ hk => hk.2) (.slice Ao11 y118.length co11)) (fun _ hk => hk.2) (.int .i64 0)) (fun _ hk => trivial)⟩
     have n1_ : Aside0 ((((((w12.setCell ⟨gb121, 0, none⟩ (.int .i64 3)).setCell ⟨gb121, 1, none⟩ (.string (⟨#[]⟩ : ByteArray))).setCell ⟨gb121, 2, none⟩ (.slice none 0 0)).setCell ⟨gb121, 3, none⟩ (.slice Ao11 y118.length co11)).setCell ⟨gb121, 4, none⟩ (.int .i64 0)).heap[gb121]? = some (.cells #[.int .i64 3, .string (⟨#[]⟩ : ByteArray), .slice none 0 0, .slice Ao11 y118.length co11, .int .i64 0] 26 (0, 0))) := ⟨by (with_reducible repeat (first | refine blk_drewN ?_ _ | refine blk_drew ?_ | refine blk_alloc ?_ _)); refine blk_put (cs := #[.int .i64 3, .string (⟨#[]⟩ : ByteArray), .slice none 0 0, .slice Ao11 y118.length co11, .int .i64 0]) ?_ 4 _ rfl; (with_reducible repeat (first | refine blk_drewN ?_ _ | refine blk_drew ?_ | refine blk_alloc ?_ _)); refine blk_put (cs := #[.int .i64 3, .string (⟨#[]⟩ : ByteArray), .slice none 0 0, .slice none 0 0, .int .i64 0]) ?_ 3 _ rfl; (with_reducible repeat (first | refine blk_drewN ?_ _ | refine blk_drew ?_ | refine blk_alloc ?_ _)); refine blk_put (cs := #[.int .i64 3, .string (⟨#[]⟩ : ByteArray), .slice none 0 0, .slice none 0 0, .int .i64 0]) ?_ 2 _ rfl; (with_reducible repeat (first | refine blk_drewN ?_ _ | refine blk_drew ?_ | refine blk_alloc ?_ _)); refine blk_put (cs := #[.int .i64 3, .string (⟨#[]⟩ : ByteArray), .slice none 0 0, .slice none 0 0, .int .i64 0]) ?_ 1 _ rfl; (with_reducible repeat (first | refine blk_drewN ?_ _ | refine blk_drew ?_ | refine blk_alloc ?_ _)); refine blk_put (cs := #[.int .i64 0, .string (⟨#[]⟩ : ByteArray), .slice none 0 0, .slice none 0 0, .int .i64 0]) ?_ 0 _ rfl; (with_reducible repeat (first | refine blk_drewN ?_ _ | refine blk_drew ?_ | refine blk_alloc ?_ _)); exact BK121.out⟩
     have n2_ : Aside0 (Below w.heap.size w (((((w12.setCell ⟨gb121, 0, none⟩ (.int .i64 3)).setCell ⟨gb121, 1, none⟩ (.string (⟨#[]⟩ : ByteArray))).setCell ⟨gb121, 2, none⟩ (.slice none 0 0)).setCell ⟨gb121, 3, none⟩ (.slice Ao11 y118.length co11)).setCell ⟨gb121, 4, none⟩ (.int .i64 0))) := ⟨(qed14_ HB.out GE121.out)⟩
     (try clear HO120)
     (try clear BK121)
     (try clear HB)
     generalize (((((w12.setCell ⟨gb121, 0, none⟩ (.int .i64 3)).setCell ⟨gb121, 1, none⟩ (.string (⟨#[]⟩ : ByteArray))).setCell ⟨gb121, 2, none⟩ (.slice none 0 0)).setCell ⟨gb121, 3, none⟩ (.slice Ao11 y118.length co11)).setCell ⟨gb121, 4, none⟩ (.int .i64 0)) = w14 at n0_ n1_ n2_ ⊢
     have HO120 := n0_
     have BK121 := n1_
     have HB := n2_
     clear n0_ n1_ n2_
     have n0_ := Aside0.mk (Kd.R_drew HO120.out)
     have n1_ := Aside0.mk (blk_drew BK121.out)
     have n2_ := Aside0.mk (below_drew1 HB.out)
     clear HO120
     clear BK121
     clear HB
     have HO120 := n0_
     have BK121 := n1_
     have HB := n2_
     clear n0_ n1_ n2_
     refine start_ (n := 24) (S := fun w' => w'.cell? ⟨gb121, 0, none⟩ = some (.int .i64 3) ∧ w'.cell? ⟨gb121, 1, none⟩ = some (.string (⟨#[]⟩ : ByteArray)) ∧ w'.cell? ⟨gb121, 2, none⟩ = some (.slice none 0 0) ∧ w'.cell? ⟨gb121, 3, none⟩ = some (.slice Ao11 y118.length co11) ∧ w'.cell? ⟨gb121, 4, none⟩ = some (.int .i64 0)) (ds := []) (ml_ 24 0) (by kernel_rfl) rfl rfl ⟨(blk_cell BK121.out 0).trans rfl, (blk_cell BK121.out 1).trans rfl, (blk_cell BK121.out 2).trans rfl, (blk_cell BK121.out 3).trans rfl, (blk_cell BK121.out 4).trans rfl⟩ (fun hHeld => ?_); refine with_tabW caravanlaw5_awake.tab2 caravanlaw5_awake.bits2 (fun HT_ HW_ => ?_)
     generalize w14.drew = w15 at HO120 BK121 HB hHeld ⊢
     refine pA_ 0 4 (ml_ 24 1) rfl rfl HT_.out ?_
     refine one_ (i := 1) (N := some 5) (ml_ 24 3) rfl rfl (one_of HT_.out (by kernel_rfl)) (by decide) (fun K hK => ?_)
     refine goes_ Try.func15 (by kernel_rfl) rfl #[.agg #[.int .i64 0, .string (⟨#[]⟩ : ByteArray), .slice none 0 0, .slice none 0 0, .int .i64 0]] (by rfl) rfl rfl qM_ ?_
     refine (item_Type.calls 0 (⟨#[]⟩ : ByteArray) _ _ ([] : List (S29)) _ _ ([] : List ByteArray) 0 t122 _ ?side1 ?side2 ?side3 ?side4 A1.out).mono ?_
     (case side1 => exact Kd.C_nil _ _)
     (case side2 => exact Nat.le_refl _)
     (case side3 => exact Kd.C_nil _ _)
     (case side4 => exact Nat.le_refl _)
     rintro e w16 ⟨rfl, hb⟩
     refine ⟨_, rfl, ?_⟩
     have n0_ := Aside0.mk (Kd.R_below (q8524_ HO120.out) hb)
     have n1_ := Aside0.mk (blk_below (g := gb121) (o := .cells #[.int .i64 3, .string (⟨#[]⟩ : ByteArray), .slice none 0 0, .slice Ao11 y118.length co11, .int .i64 0] 26 (0, 0)) (q1466_ BK121.out) hb)
     have n2_ := Aside0.mk (below_step (qed14_ HB.out GE121.out) hb)
     clear HO120
     clear BK121
     clear HB
     have HO120 := n0_
     have BK121 := n1_
     have HB := n2_
     clear n0_ n1_ n2_
     (try clear hb)
     (try clear hb2)
     (try clear hk)
     (try clear hi)
     refine hK.out _ _ ⟨(blk_cell BK121.out 0).trans rfl, (blk_cell BK121.out 1).trans rfl, (blk_cell BK121.out 2).trans rfl, (blk_cell BK121.out 3).trans rfl, (blk_cell BK121.out 4).trans rfl⟩ (fun hHeld => ?_)
     clear hK K
     refine nA_ 5 ?_
     refine pA_ 2 6 (ml_ 24 7) rfl rfl HT_.out ?_
     refine pA_ 3 7 (ml_ 24 15) rfl rfl HT_.out ?_
     refine t5_ 4 8 (ml_ 24 31) rfl rfl HT_.out HW_.out hHeld ?_
     refine one_ (i := 5) (N := some 9) (ml_ 24 63) rfl rfl (one_of HT_.out (by kernel_rfl)) (by decide) (fun K hK => ?_)
     refine goes_ Try.func15 (by kernel_rfl) rfl #[.agg #[.int .i64 3, .string (⟨#[]⟩ : ByteArray), .slice none 0 0, .slice Ao11 y118.length co11, .int .i64 0]] (by rfl) rfl rfl qM_ ?_
     refine (item_Type.calls 3 (⟨#[]⟩ : ByteArray) _ _ ([] : List (S29)) _ _ y118 0 t123 _ ?side1 ?side2 ?side3 ?side4 A3.out).mono ?_
     (case side1 => exact Kd.C_nil _ _)
     (case side2 => exact Nat.le_refl _)
     (case side3 => exact qC_ ((Kd.R_reads' HO120.out).2.2))
     (case side4 => exact (Kd.R_reads' HO120.out).2.1)
     rintro e w17 ⟨rfl, hb⟩
     refine ⟨_, rfl, ?_⟩
     have n0_ := Aside0.mk (Kd.R_below (q8524_ HO120.out) hb)
     have n1_ := Aside0.mk (blk_below (g := gb121) (o := .cells #[.int .i64 3, .string (⟨#[]⟩ : ByteArray), .slice none 0 0, .slice Ao11 y118.length co11, .int .i64 0] 26 (0, 0)) (q1466_ BK121.out) hb)
     have n2_ := Aside0.mk (below_step (qed14_ HB.out GE121.out) hb)
     clear HO120
     clear BK121
     clear HB
     have HO120 := n0_
     have BK121 := n1_
     have HB := n2_
     clear n0_ n1_ n2_
     (try clear hb)
     (try clear hb2)
     (try clear hk)
     (try clear hi)
     refine hK.out _ _ ⟨(blk_cell BK121.out 0).trans rfl, (blk_cell BK121.out 1).trans rfl, (blk_cell BK121.out 2).trans rfl, (blk_cell BK121.out 3).trans rfl, (blk_cell BK121.out 4).trans rfl⟩ (fun hHeld => ?_)
     clear hK K
     refine nA_ 9 ?_
     refine pA_ 6 10 (ml_ 24 127) rfl rfl HT_.out ?_
     refine pA_ 7 11 (ml_ 24 255) rfl rfl HT_.out ?_
     refine pA_ 8 12 (ml_ 24 511) rfl rfl HT_.out ?_
     refine t5_ 9 13 (ml_ 24 1023) rfl rfl HT_.out HW_.out hHeld ?_
     refine one_ (i := 10) (N := some 14) (ml_ 24 2047) rfl rfl (one_of HT_.out (by kernel_rfl)) (by decide) (fun K hK => ?_)
     refine goes_ Try.func9 (by kernel_rfl) rfl #[.agg #[.int .i64 3, .string (⟨#[]⟩ : ByteArray), .slice none 0 0, .slice Ao11 y118.length co11, .int .i64 0]] (by rfl) rfl rfl qM_ ?_
     refine (item_May.calls 3 (⟨#[]⟩ : ByteArray) _ _ ([] : List (S29)) _ _ y118 0 true _ ?side1 ?side2 ?side3 ?side4 A5.out).mono ?_
     (case side1 => exact Kd.C_nil _ _)
     (case side2 => exact Nat.le_refl _)
     (case side3 => exact qC_ ((Kd.R_reads' HO120.out).2.2))
     (case side4 => exact (Kd.R_reads' HO120.out).2.1)
     rintro e w18 ⟨rfl, hb⟩
     refine ⟨_, rfl, ?_⟩
     have n0_ := Aside0.mk (Kd.R_below (q8524_ HO120.out) hb)
     have n1_ := Aside0.mk (blk_below (g := gb121) (o := .cells #[.int .i64 3, .string (⟨#[]⟩ : ByteArray), .slice none 0 0, .slice Ao11 y118.length co11, .int .i64 0] 26 (0, 0)) (q1466_ BK121.out) hb)
     have n2_ := Aside0.mk (below_step (qed14_ HB.out GE121.out) hb)
     clear HO120
     clear BK121
     clear HB
     have HO120 := n0_
     have BK121 := n1_
     have HB := n2_
     clear n0_ n1_ n2_
     (try clear hb)
     (try clear hb2)
     (try clear hk)
     (try clear hi)
     refine hK.out _ _ ⟨(blk_cell BK121.out 0).trans rfl, (blk_cell BK121.out 1).trans rfl, (blk_cell BK121.out 2).trans rfl, (blk_cell BK121.out 3).trans rfl, (blk_cell BK121.out 4).trans rfl⟩ (fun hHeld => ?_)
     clear hK K
     refine nA_ 14 ?_
     refine pA_ 11 15 (ml_ 24 4095) rfl rfl HT_.out ?_
     refine pA_ 12 16 (ml_ 24 8191) rfl rfl HT_.out ?_
     refine pA_ 13 17 (ml_ 24 16383) rfl rfl HT_.out ?_
     refine one_ (i := 14) (N := some 18) (ml_ 24 32767) rfl rfl (one_of HT_.out (by kernel_rfl)) (by decide) (fun K hK => ?_)
     refine goes_ Try.func9 (by kernel_rfl) rfl #[.agg #[.int .i64 0, .string (⟨#[]⟩ : ByteArray), .slice none 0 0, .slice none 0 0, .int .i64 0]] (by rfl) rfl rfl qM_ ?_
     refine (item_May.calls 0 (⟨#[]⟩ : ByteArray) _ _ ([] : List (S29)) _ _ ([] : List ByteArray) 0 true _ ?side1 ?side2 ?side3 ?side4 A7.out).mono ?_
     (case side1 => exact Kd.C_nil _ _)
     (case side2 => exact Nat.le_refl _)
     (case side3 => exact Kd.C_nil _ _)
     (case side4 => exact Nat.le_refl _)
     rintro e w19 ⟨rfl, hb⟩
     refine ⟨_, rfl, ?_⟩
     have n0_ := Aside0.mk (Kd.R_below (q8524_ HO120.out) hb)
     have n1_ := Aside0.mk (blk_below (g := gb121) (o := .cells #[.int .i64 3, .string (⟨#[]⟩ : ByteArray), .slice none 0 0, .slice Ao11 y118.length co11, .int .i64 0] 26 (0, 0)) (q1466_ BK121.out) hb)
     have n2_ := Aside0.mk (below_step (qed14_ HB.out GE121.out) hb)
     clear HO120
     clear BK121
     clear HB
     have HO120 := n0_
     have BK121 := n1_
     have HB := n2_
     clear n0_ n1_ n2_
     (try clear hb)
     (try clear hb2)
     (try clear hk)
     (try clear hi)
     refine hK.out _ _ ⟨(blk_cell BK121.out 0).trans rfl, (blk_cell BK121.out 1).trans rfl, (blk_cell BK121.out 2).trans rfl, (blk_cell BK121.out 3).trans rfl, (blk_cell BK121.out 4).trans rfl⟩ (fun hHeld => ?_)
     clear hK K
     refine nA_ 18 ?_
     refine pA_ 15 19 (ml_ 24 65535) rfl rfl HT_.out ?_
     refine pA_ 16 20 (ml_ 24 131071) rfl rfl HT_.out ?_
     refine pA_ 17 21 (ml_ 24 262143) rfl rfl HT_.out ?_
     refine pU_ 18 22 (ml_ 24 524287) rfl rfl HT_.out ?_
     refine pU_ 19 23 (ml_ 24 1048575) rfl rfl HT_.out ?_
     refine pU_ 20 24 (ml_ 24 2097151) rfl rfl HT_.out ?_
     refine pU_ 21 25 (ml_ 24 4194303) rfl rfl HT_.out ?_
     refine pA_ 22 26 (ml_ 24 8388607) rfl rfl HT_.out ?_
     refine pA_ 23 0 (ml_ 24 16777215) rfl rfl HT_.out ?_
     refine done_ (done_of HT_.out (by kernel_rfl)) ?_
     try go_wp2
     go_ret
     exact ⟨by first | rfl | (simp [errW_none, errW_some] <;> rfl) | (simp [*, errW_none, errW_some] <;> rfl), (qed14_ HB.out GE121.out)⟩
    ·replace c8 := Bool.eq_false_iff.mpr c8
     subst c8
     have H1 : ((item_Copy.f 3 (⟨#[]⟩ : ByteArray) ([] : List (S29)) y118 0).bind fun bt126 => ((item_Same.f k bt126.1 bt126.2.1 bt126.2.2.1 bt126.2.2.2.1 bt126.2.2.2.2 3 (⟨#[]⟩ : ByteArray) ([] : List (S29)) y118 0).bind fun t135 => (some t135))) = some r := by rw [if_neg (show ¬ (false = true) by decide)] at H; exact H
     clear H
     have H := H1
     clear H1
     replace H := Option.bind_eq_some_iff.mp H
     obtain ⟨⟨t126, t127, t128, t131, t134⟩, A200, H⟩ := H
     replace H : ((item_Same.f k t126 t127 t128 t131 t134 3 (⟨#[]⟩ : ByteArray) ([] : List (S29)) y118 0).bind fun t135 => (some t135)) = some r := H
     have A20 := Aside0.mk A200
     clear A200
     replace H := Option.bind_eq_some_iff.mp H
     obtain ⟨t135, A210, H⟩ := H
     replace H : (some t135) = some r := H
     have A21 := Aside0.mk A210
     clear A210
     obtain rfl := Option.some.inj H
     go_enter Try.func10, Try.ntmps10
     try go_wp2_with (first | ((with_reducible refine gate_dst (N := 2) rfl ?_); refine Kd.R_lit Kd.string _ 9 ?hg (N := 2) ?hd (xs := ([(⟨#[97]⟩ : ByteArray)] : List ByteArray)) (inner := [.string (⟨#[97]⟩ : ByteArray)]) (ok := fun _ => True) (okp := fun _ => True) ?hr ?hp (fun _ hk => hk) trivial (Below.refl _ _) (Nat.le_refl _) (by simp) ?_; (case hd => rfl); (case hg => rfl); (case hr => first | (go_simp; done) | (go_simp; rfl)); (case hp => exact (Reps.one (show Kd.M Kd.string _ _ _ (⟨#[97]⟩ : ByteArray) [.string (⟨#[97]⟩ : ByteArray)] from rfl) (Reps.none _ _))); intro v119 w22 ho23 hb hg_ hnew_; clear hg_ hnew_; (first | rw [← Ny118.out] at ho23 | (simp only [Int.reduceToNat] at ho23; rw [← Ny118.out] at ho23)); have n0_ := Aside0.mk (Kd.R_lower ho23 (below_size (qdb35_ HB.out))); have n1_ := Aside0.mk (below_step (qdb35_ HB.out) hb); clear HB; have HO120 := n0_; have HB := n1_; clear n0_ n1_; clear hb ho23; obtain ⟨Ao24, co24, eo24⟩ := Kd.R_slice HO120.out; subst eo24) | ((with_reducible refine gate_dst (N := 1) rfl ?_); refine box_event ?hg (N := 1) ?hd (cs := #[.int .i64 0, .string (⟨#[]⟩ : ByteArray), .slice none 0 0, .slice none 0 0, .int .i64 0]) (t := 26) ?hr ?_; (case hd => rfl); (case hg => rfl); (case hr => first | (go_simp; done) | (go_simp; rfl)); intro gb121 hg w25 hbox hb; have n0_ := Aside0.mk (Kd.R_below (q8524_ HO120.out) hb); have n1_ := Aside0.mk (below_step (qdb35_ HB.out) hb); have n2_ := Aside0.mk (hbox); have n3_ := Aside0.mk ((by rw [hg]; exact (below_size (qdb35_ HB.out)) : w.heap.size ≤ gb121)); have n4_ := Aside0.mk ((by rw [hg]; exact (below_size (qdb35_ HB.out)) : w.heap.size ≤ gb121)); clear HO120; clear HB; have HO120 := n0_; have HB := n1_; have BK121 := n2_; have GW121 := n3_; have GE121 := n4_; clear n0_ n1_ n2_ n3_ n4_; clear hb hbox hg; have hcz26_0 : w25.cell? ⟨gb121, 0, none⟩ = some (.int .i64 0) := (blk_cell BK121.out 0).trans rfl; have hcz26_1 : w25.cell? ⟨gb121, 1, none⟩ = some (.string (⟨#[]⟩ : ByteArray)) := (blk_cell BK121.out 1).trans rfl; have hcz26_2 : w25.cell? ⟨gb121, 2, none⟩ = some (.slice none 0 0) := (blk_cell BK121.out 2).trans rfl; have hcz26_3 : w25.cell? ⟨gb121, 3, none⟩ = some (.slice none 0 0) := (blk_cell BK121.out 3).trans rfl; have hcz26_4 : w25.cell? ⟨gb121, 4, none⟩ = some (.int .i64 0) := (blk_cell BK121.out 4).trans rfl; have hfz26_0 := blk_frozen BK121.out 0; have hfz26_1 := blk_frozen BK121.out 1; have hfz26_2 := blk_frozen BK121.out 2; have hfz26_3 := blk_frozen BK121.out 3; have hfz26_4 := blk_frozen BK121.out 4))
     have n0_ : Aside0 (Kd.R Kd.string 9 (((((w25.setCell ⟨gb121, 0, none⟩ (.int .i64 3)).setCell ⟨gb121, 1, none⟩ (.string (⟨#[]⟩ : ByteArray))).setCell ⟨gb121, 2, none⟩ (.slice none 0 0)).setCell ⟨gb121, 3, none⟩ (.slice Ao24 y118.length co24)).setCell ⟨gb121, 4, none⟩ (.int .i64 0)) w.heap.size (fun _ => True) (.slice Ao24 y118.length co24) y118) := ⟨by (with_reducible repeat (first | apply Kd.R_alloc | apply Kd.R_drewN | apply Kd.R_drew)); exact Kd.R_mono (Kd.R_far (p := ⟨gb121, 4, none⟩) (Kd.R_far (p := ⟨gb121, 3, none⟩) (Kd.R_far (p := ⟨gb121, 2, none⟩) (Kd.R_far (p := ⟨gb121, 1, none⟩) (Kd.R_far (p := ⟨gb121, 0, none⟩) (Kd.R_types HO120.out BK121.out (by decide)) (fun _ hk => hk.2) (.int .i64 3)) (fun _ hk => hk.2) (.string (⟨#[]⟩ : ByteArray))) (fun _ hk => hk.2) (.slice none 0 0)) (fun _ hk => hk.2) (.slice Ao24 y118.length co24)) (fun _ hk => hk.2) (.int .i64 0)) (fun _ hk => trivial)⟩
     have n1_ : Aside0 ((((((w25.setCell ⟨gb121, 0, none⟩ (.int .i64 3)).setCell ⟨gb121, 1, none⟩ (.string (⟨#[]⟩ : ByteArray))).setCell ⟨gb121, 2, none⟩ (.slice none 0 0)).setCell ⟨gb121, 3, none⟩ (.slice Ao24 y118.length co24)).setCell ⟨gb121, 4, none⟩ (.int .i64 0)).heap[gb121]? = some (.cells #[.int .i64 3, .string (⟨#[]⟩ : ByteArray), .slice none 0 0, .slice Ao24 y118.length co24, .int .i64 0] 26 (0, 0))) := ⟨by (with_reducible repeat (first | refine blk_drewN ?_ _ | refine blk_drew ?_ | refine blk_alloc ?_ _)); refine blk_put (cs := #[.int .i64 3, .string (⟨#[]⟩ : ByteArray), .slice none 0 0, .slice Ao24 y118.length co24, .int .i64 0]) ?_ 4 _ rfl; (with_reducible repeat (first | refine blk_drewN ?_ _ | refine blk_drew ?_ | refine blk_alloc ?_ _)); refine blk_put (cs := #[.int .i64 3, .string (⟨#[]⟩ : ByteArray), .slice none 0 0, .slice none 0 0, .int .i64 0]) ?_ 3 _ rfl; (with_reducible repeat (first | refine blk_drewN ?_ _ | refine blk_drew ?_ | refine blk_alloc ?_ _)); refine blk_put (cs := #[.int .i64 3, .string (⟨#[]⟩ : ByteArray), .slice none 0 0, .slice none 0 0, .int .i64 0]) ?_ 2 _ rfl; (with_reducible repeat (first | refine blk_drewN ?_ _ | refine blk_drew ?_ | refine blk_alloc ?_ _)); refine blk_put (cs := #[.int .i64 3, .string (⟨#[]⟩ : ByteArray), .slice none 0 0, .slice none 0 0, .int .i64 0]) ?_ 1 _ rfl; (with_reducible repeat (first | refine blk_drewN ?_ _ | refine blk_drew ?_ | refine blk_alloc ?_ _)); refine blk_put (cs := #[.int .i64 0, .string (⟨#[]⟩ : ByteArray), .slice none 0 0, .slice none 0 0, .int .i64 0]) ?_ 0 _ rfl; (with_reducible repeat (first | refine blk_drewN ?_ _ | refine blk_drew ?_ | refine blk_alloc ?_ _)); exact BK121.out⟩
     have n2_ : Aside0 (Below w.heap.size w (((((w25.setCell ⟨gb121, 0, none⟩ (.int .i64 3)).setCell ⟨gb121, 1, none⟩ (.string (⟨#[]⟩ : ByteArray))).setCell ⟨gb121, 2, none⟩ (.slice none 0 0)).setCell ⟨gb121, 3, none⟩ (.slice Ao24 y118.length co24)).setCell ⟨gb121, 4, none⟩ (.int .i64 0))) := ⟨(qed14_ HB.out GE121.out)⟩
     (try clear HO120)
     (try clear BK121)
     (try clear HB)
     generalize (((((w25.setCell ⟨gb121, 0, none⟩ (.int .i64 3)).setCell ⟨gb121, 1, none⟩ (.string (⟨#[]⟩ : ByteArray))).setCell ⟨gb121, 2, none⟩ (.slice none 0 0)).setCell ⟨gb121, 3, none⟩ (.slice Ao24 y118.length co24)).setCell ⟨gb121, 4, none⟩ (.int .i64 0)) = w27 at n0_ n1_ n2_ ⊢
     have HO120 := n0_
     have BK121 := n1_
     have HB := n2_
     clear n0_ n1_ n2_
     have n0_ := Aside0.mk (Kd.R_drew HO120.out)
     have n1_ := Aside0.mk (blk_drew BK121.out)
     have n2_ := Aside0.mk (below_drew1 HB.out)
     clear HO120
     clear BK121
     clear HB
     have HO120 := n0_
     have BK121 := n1_
     have HB := n2_
     clear n0_ n1_ n2_
     refine start_ (n := 24) (S := fun w' => w'.cell? ⟨gb121, 0, none⟩ = some (.int .i64 3) ∧ w'.cell? ⟨gb121, 1, none⟩ = some (.string (⟨#[]⟩ : ByteArray)) ∧ w'.cell? ⟨gb121, 2, none⟩ = some (.slice none 0 0) ∧ w'.cell? ⟨gb121, 3, none⟩ = some (.slice Ao24 y118.length co24) ∧ w'.cell? ⟨gb121, 4, none⟩ = some (.int .i64 0)) (ds := []) (ml_ 24 0) (by kernel_rfl) rfl rfl ⟨(blk_cell BK121.out 0).trans rfl, (blk_cell BK121.out 1).trans rfl, (blk_cell BK121.out 2).trans rfl, (blk_cell BK121.out 3).trans rfl, (blk_cell BK121.out 4).trans rfl⟩ (fun hHeld => ?_); refine with_tabW caravanlaw5_awake.tab2 caravanlaw5_awake.bits2 (fun HT_ HW_ => ?_)
     generalize w27.drew = w28 at HO120 BK121 HB hHeld ⊢
     refine pA_ 0 4 (ml_ 24 1) rfl rfl HT_.out ?_
     refine one_ (i := 1) (N := some 5) (ml_ 24 3) rfl rfl (one_of HT_.out (by kernel_rfl)) (by decide) (fun K hK => ?_)
     refine goes_ Try.func15 (by kernel_rfl) rfl #[.agg #[.int .i64 0, .string (⟨#[]⟩ : ByteArray), .slice none 0 0, .slice none 0 0, .int .i64 0]] (by rfl) rfl rfl qM_ ?_
     refine (item_Type.calls 0 (⟨#[]⟩ : ByteArray) _ _ ([] : List (S29)) _ _ ([] : List ByteArray) 0 t122 _ ?side1 ?side2 ?side3 ?side4 A1.out).mono ?_
     (case side1 => exact Kd.C_nil _ _)
     (case side2 => exact Nat.le_refl _)
     (case side3 => exact Kd.C_nil _ _)
     (case side4 => exact Nat.le_refl _)
     rintro e w29 ⟨rfl, hb⟩
     refine ⟨_, rfl, ?_⟩
     have n0_ := Aside0.mk (Kd.R_below (q8524_ HO120.out) hb)
     have n1_ := Aside0.mk (blk_below (g := gb121) (o := .cells #[.int .i64 3, .string (⟨#[]⟩ : ByteArray), .slice none 0 0, .slice Ao24 y118.length co24, .int .i64 0] 26 (0, 0)) (q1466_ BK121.out) hb)
     have n2_ := Aside0.mk (below_step (qed14_ HB.out GE121.out) hb)
     clear HO120
     clear BK121
     clear HB
     have HO120 := n0_
     have BK121 := n1_
     have HB := n2_
     clear n0_ n1_ n2_
     (try clear hb)
     (try clear hb2)
     (try clear hk)
     (try clear hi)
     refine hK.out _ _ ⟨(blk_cell BK121.out 0).trans rfl, (blk_cell BK121.out 1).trans rfl, (blk_cell BK121.out 2).trans rfl, (blk_cell BK121.out 3).trans rfl, (blk_cell BK121.out 4).trans rfl⟩ (fun hHeld => ?_)
     clear hK K
     refine nA_ 5 ?_
     refine pA_ 2 6 (ml_ 24 7) rfl rfl HT_.out ?_
     refine pA_ 3 7 (ml_ 24 15) rfl rfl HT_.out ?_
     refine t5_ 4 8 (ml_ 24 31) rfl rfl HT_.out HW_.out hHeld ?_
     refine one_ (i := 5) (N := some 9) (ml_ 24 63) rfl rfl (one_of HT_.out (by kernel_rfl)) (by decide) (fun K hK => ?_)
     refine goes_ Try.func15 (by kernel_rfl) rfl #[.agg #[.int .i64 3, .string (⟨#[]⟩ : ByteArray), .slice none 0 0, .slice Ao24 y118.length co24, .int .i64 0]] (by rfl) rfl rfl qM_ ?_
     refine (item_Type.calls 3 (⟨#[]⟩ : ByteArray) _ _ ([] : List (S29)) _ _ y118 0 t123 _ ?side1 ?side2 ?side3 ?side4 A3.out).mono ?_
     (case side1 => exact Kd.C_nil _ _)
     (case side2 => exact Nat.le_refl _)
     (case side3 => exact qC_ ((Kd.R_reads' HO120.out).2.2))
     (case side4 => exact (Kd.R_reads' HO120.out).2.1)
     rintro e w30 ⟨rfl, hb⟩
     refine ⟨_, rfl, ?_⟩
     have n0_ := Aside0.mk (Kd.R_below (q8524_ HO120.out) hb)
     have n1_ := Aside0.mk (blk_below (g := gb121) (o := .cells #[.int .i64 3, .string (⟨#[]⟩ : ByteArray), .slice none 0 0, .slice Ao24 y118.length co24, .int .i64 0] 26 (0, 0)) (q1466_ BK121.out) hb)
     have n2_ := Aside0.mk (below_step (qed14_ HB.out GE121.out) hb)
     clear HO120
     clear BK121
     clear HB
     have HO120 := n0_
     have BK121 := n1_
     have HB := n2_
     clear n0_ n1_ n2_
     (try clear hb)
     (try clear hb2)
     (try clear hk)
     (try clear hi)
     refine hK.out _ _ ⟨(blk_cell BK121.out 0).trans rfl, (blk_cell BK121.out 1).trans rfl, (blk_cell BK121.out 2).trans rfl, (blk_cell BK121.out 3).trans rfl, (blk_cell BK121.out 4).trans rfl⟩ (fun hHeld => ?_)
     clear hK K
     refine nA_ 9 ?_
     refine pA_ 6 10 (ml_ 24 127) rfl rfl HT_.out ?_
     refine pA_ 7 11 (ml_ 24 255) rfl rfl HT_.out ?_
     refine pA_ 8 12 (ml_ 24 511) rfl rfl HT_.out ?_
     refine t5_ 9 13 (ml_ 24 1023) rfl rfl HT_.out HW_.out hHeld ?_
     refine one_ (i := 10) (N := some 14) (ml_ 24 2047) rfl rfl (one_of HT_.out (by kernel_rfl)) (by decide) (fun K hK => ?_)
     refine goes_ Try.func9 (by kernel_rfl) rfl #[.agg #[.int .i64 3, .string (⟨#[]⟩ : ByteArray), .slice none 0 0, .slice Ao24 y118.length co24, .int .i64 0]] (by rfl) rfl rfl qM_ ?_
     refine (item_May.calls 3 (⟨#[]⟩ : ByteArray) _ _ ([] : List (S29)) _ _ y118 0 true _ ?side1 ?side2 ?side3 ?side4 A5.out).mono ?_
     (case side1 => exact Kd.C_nil _ _)
     (case side2 => exact Nat.le_refl _)
     (case side3 => exact qC_ ((Kd.R_reads' HO120.out).2.2))
     (case side4 => exact (Kd.R_reads' HO120.out).2.1)
     rintro e w31 ⟨rfl, hb⟩
     refine ⟨_, rfl, ?_⟩
     have n0_ := Aside0.mk (Kd.R_below (q8524_ HO120.out) hb)
     have n1_ := Aside0.mk (blk_below (g := gb121) (o := .cells #[.int .i64 3, .string (⟨#[]⟩ : ByteArray), .slice none 0 0, .slice Ao24 y118.length co24, .int .i64 0] 26 (0, 0)) (q1466_ BK121.out) hb)
     have n2_ := Aside0.mk (below_step (qed14_ HB.out GE121.out) hb)
     clear HO120
     clear BK121
     clear HB
     have HO120 := n0_
     have BK121 := n1_
     have HB := n2_
     clear n0_ n1_ n2_
     (try clear hb)
     (try clear hb2)
     (try clear hk)
     (try clear hi)
     refine hK.out _ _ ⟨(blk_cell BK121.out 0).trans rfl, (blk_cell BK121.out 1).trans rfl, (blk_cell BK121.out 2).trans rfl, (blk_cell BK121.out 3).trans rfl, (blk_cell BK121.out 4).trans rfl⟩ (fun hHeld => ?_)
     clear hK K
     refine nA_ 14 ?_
     refine pA_ 11 15 (ml_ 24 4095) rfl rfl HT_.out ?_
     refine pA_ 12 16 (ml_ 24 8191) rfl rfl HT_.out ?_
     refine pA_ 13 17 (ml_ 24 16383) rfl rfl HT_.out ?_
     refine one_ (i := 14) (N := some 18) (ml_ 24 32767) rfl rfl (one_of HT_.out (by kernel_rfl)) (by decide) (fun K hK => ?_)
     refine goes_ Try.func9 (by kernel_rfl) rfl #[.agg #[.int .i64 0, .string (⟨#[]⟩ : ByteArray), .slice none 0 0, .slice none 0 0, .int .i64 0]] (by rfl) rfl rfl qM_ ?_
     refine (item_May.calls 0 (⟨#[]⟩ : ByteArray) _ _ ([] : List (S29)) _ _ ([] : List ByteArray) 0 false _ ?side1 ?side2 ?side3 ?side4 A7.out).mono ?_
     (case side1 => exact Kd.C_nil _ _)
     (case side2 => exact Nat.le_refl _)
     (case side3 => exact Kd.C_nil _ _)
     (case side4 => exact Nat.le_refl _)
     rintro e w32 ⟨rfl, hb⟩
     refine ⟨_, rfl, ?_⟩
     have n0_ := Aside0.mk (Kd.R_below (q8524_ HO120.out) hb)
     have n1_ := Aside0.mk (blk_below (g := gb121) (o := .cells #[.int .i64 3, .string (⟨#[]⟩ : ByteArray), .slice none 0 0, .slice Ao24 y118.length co24, .int .i64 0] 26 (0, 0)) (q1466_ BK121.out) hb)
     have n2_ := Aside0.mk (below_step (qed14_ HB.out GE121.out) hb)
     clear HO120
     clear BK121
     clear HB
     have HO120 := n0_
     have BK121 := n1_
     have HB := n2_
     clear n0_ n1_ n2_
     (try clear hb)
     (try clear hb2)
     (try clear hk)
     (try clear hi)
     refine hK.out _ _ ⟨(blk_cell BK121.out 0).trans rfl, (blk_cell BK121.out 1).trans rfl, (blk_cell BK121.out 2).trans rfl, (blk_cell BK121.out 3).trans rfl, (blk_cell BK121.out 4).trans rfl⟩ (fun hHeld => ?_)
     clear hK K
     refine nA_ 18 ?_
     refine pA_ 15 19 (ml_ 24 65535) rfl rfl HT_.out ?_
     refine pA_ 16 20 (ml_ 24 131071) rfl rfl HT_.out ?_
     refine pA_ 17 21 (ml_ 24 262143) rfl rfl HT_.out ?_
     refine t5_ 18 22 (ml_ 24 524287) rfl rfl HT_.out HW_.out hHeld ?_
     refine t5_ 20 24 (ml_ 24 1572863) rfl rfl HT_.out HW_.out hHeld ?_
     refine one_ (i := 19) (N := some 23) (ml_ 24 2097151) rfl rfl (one_of HT_.out (by kernel_rfl)) (by decide) (fun K hK => ?_)
     refine goes_ Try.func19 (by kernel_rfl) rfl #[.agg #[.int .i64 3, .string (⟨#[]⟩ : ByteArray), .slice none 0 0, .slice Ao24 y118.length co24, .int .i64 0]] (by rfl) rfl rfl qM_ ?_
     refine (item_Copy.calls 3 (⟨#[]⟩ : ByteArray) _ _ ([] : List (S29)) _ _ y118 0 t126 t127 t128 t131 t134 _ ?side1 ?side2 ?side3 ?side4 A20.out).mono ?_
     (case side1 => exact Kd.C_nil _ _)
     (case side2 => exact Nat.le_refl _)
     (case side3 => exact qC_ ((Kd.R_reads' HO120.out).2.2))
     (case side4 => exact (Kd.R_reads' HO120.out).2.1)
     rintro e w33 ⟨v129, v132, rfl, ho0, ho1, hb⟩
     refine ⟨_, rfl, ?_⟩
     have n0_ := Aside0.mk (Kd.R_elder' (q8524_ HO120.out) (Kd.R_base ho1) hb)
     have n1_ := Aside0.mk (Kd.R_lower ho0 (below_size (qed14_ HB.out GE121.out)))
     have n2_ := Aside0.mk (Kd.R_lower (Kd.R_new' ho1 (Kd.R_lt (q8524_ HO120.out))) (below_size (qed14_ HB.out GE121.out)))
     have n3_ := Aside0.mk (blk_below (g := gb121) (o := .cells #[.int .i64 3, .string (⟨#[]⟩ : ByteArray), .slice none 0 0, .slice Ao24 y118.length co24, .int .i64 0] 26 (0, 0)) (q1466_ BK121.out) hb)
     have n4_ := Aside0.mk (below_step (qed14_ HB.out GE121.out) hb)
     clear HO120
     clear BK121
     clear HB
     have HO120 := n0_
     have HO130 := n1_
     have HO133 := n2_
     have BK121 := n3_
     have HB := n4_
     clear n0_ n1_ n2_ n3_ n4_
     (try clear hb)
     (try clear hb2)
     (try clear hk)
     (try clear hi)
     (try clear ho0)
     (try clear ho1)
     obtain ⟨Ao34, co34, eo34⟩ := Kd.R_slice HO130.out
     (first | subst eo34 | (injection eo34 with f1_ f2_ f3_; have f4_ := f1_.symm; have f5_ := f3_.symm; clear f1_ f2_ f3_; subst f4_; subst f5_))
     obtain ⟨Ao35, co35, eo35⟩ := Kd.R_slice HO133.out
     (first | subst eo35 | (injection eo35 with f1_ f2_ f3_; have f4_ := f1_.symm; have f5_ := f3_.symm; clear f1_ f2_ f3_; subst f4_; subst f5_))
     refine hK.out _ _ ⟨(blk_cell BK121.out 0).trans rfl, (blk_cell BK121.out 1).trans rfl, (blk_cell BK121.out 2).trans rfl, (blk_cell BK121.out 3).trans rfl, (blk_cell BK121.out 4).trans rfl⟩ (fun hHeld => ?_)
     clear hK K
     refine nA_ 23 ?_
     refine one_ (i := 21) (N := some 25) (ml_ 24 4194303) rfl rfl (one_of HT_.out (by kernel_rfl)) (by decide) (fun K hK => ?_)
     refine goes_ Try.func17 (by kernel_rfl) rfl #[.agg #[.int .i64 t126, .string t127, .slice Ao34 t128.length co34, .slice Ao35 t131.length co35, .int .i64 t134], .agg #[.int .i64 3, .string (⟨#[]⟩ : ByteArray), .slice none 0 0, .slice Ao24 y118.length co24, .int .i64 0]] (by rfl) rfl rfl qM_ ?_
     refine (item_Same.calls k t126 t127 _ _ t128 _ _ t131 t134 3 (⟨#[]⟩ : ByteArray) _ _ ([] : List (S29)) _ _ y118 0 t135 _ ?side1 ?side2 ?side3 ?side4 ?side5 ?side6 ?side7 ?side8 A21.out).mono ?_
     (case side1 => exact qC_ ((Kd.R_reads' HO130.out).2.2))
     (case side2 => exact (Kd.R_reads' HO130.out).2.1)
     (case side3 => exact qC_ ((Kd.R_reads' HO133.out).2.2))
     (case side4 => exact (Kd.R_reads' HO133.out).2.1)
     (case side5 => exact Kd.C_nil _ _)
     (case side6 => exact Nat.le_refl _)
     (case side7 => exact qC_ ((Kd.R_reads' HO120.out).2.2))
     (case side8 => exact (Kd.R_reads' HO120.out).2.1)
     rintro e w36 ⟨rfl, hb⟩
     refine ⟨_, rfl, ?_⟩
     have n0_ := Aside0.mk (Kd.R_below (q8524_ HO120.out) hb)
     have n1_ := Aside0.mk (Kd.R_below (q8524_ HO130.out) hb)
     have n2_ := Aside0.mk (Kd.R_below (q8524_ HO133.out) hb)
     have n3_ := Aside0.mk (blk_below (g := gb121) (o := .cells #[.int .i64 3, .string (⟨#[]⟩ : ByteArray), .slice none 0 0, .slice Ao24 y118.length co24, .int .i64 0] 26 (0, 0)) (q1466_ BK121.out) hb)
     have n4_ := Aside0.mk (below_step (qed14_ HB.out GE121.out) hb)
     clear HO120
     clear HO130
     clear HO133
     clear BK121
     clear HB
     have HO120 := n0_
     have HO130 := n1_
     have HO133 := n2_
     have BK121 := n3_
     have HB := n4_
     clear n0_ n1_ n2_ n3_ n4_
     (try clear hb)
     (try clear hb2)
     (try clear hk)
     (try clear hi)
     refine hK.out _ _ ⟨(blk_cell BK121.out 0).trans rfl, (blk_cell BK121.out 1).trans rfl, (blk_cell BK121.out 2).trans rfl, (blk_cell BK121.out 3).trans rfl, (blk_cell BK121.out 4).trans rfl⟩ (fun hHeld => ?_)
     clear hK K
     refine nA_ 25 ?_
     refine pA_ 22 26 (ml_ 24 8388607) rfl rfl HT_.out ?_
     refine pA_ 23 0 (ml_ 24 16777215) rfl rfl HT_.out ?_
     refine done_ (done_of HT_.out (by kernel_rfl)) ?_
     try go_wp2
     go_ret
     exact ⟨by first | rfl | (simp [errW_none, errW_some] <;> rfl) | (simp [*, errW_none, errW_some] <;> rfl), (qed14_ HB.out GE121.out)⟩
   ·replace c6 := Bool.eq_false_iff.mpr c6
    subst c6
    have H1 : (some false) = some r := by rw [if_neg (show ¬ (false = true) by decide)] at H; exact H
    clear H
    have H := H1
    clear H1
    obtain rfl := Option.some.inj H
    go_enter Try.func10, Try.ntmps10
    try go_wp2_with (first | ((with_reducible refine gate_dst (N := 2) rfl ?_); refine Kd.R_lit Kd.string _ 9 ?hg (N := 2) ?hd (xs := ([(⟨#[97]⟩ : ByteArray)] : List ByteArray)) (inner := [.string (⟨#[97]⟩ : ByteArray)]) (ok := fun _ => True) (okp := fun _ => True) ?hr ?hp (fun _ hk => hk) trivial (Below.refl _ _) (Nat.le_refl _) (by simp) ?_; (case hd => rfl); (case hg => rfl); (case hr => first | (go_simp; done) | (go_simp; rfl)); (case hp => exact (Reps.one (show Kd.M Kd.string _ _ _ (⟨#[97]⟩ : ByteArray) [.string (⟨#[97]⟩ : ByteArray)] from rfl) (Reps.none _ _))); intro v119 w37 ho38 hb hg_ hnew_; clear hg_ hnew_; (first | rw [← Ny118.out] at ho38 | (simp only [Int.reduceToNat] at ho38; rw [← Ny118.out] at ho38)); have n0_ := Aside0.mk (Kd.R_lower ho38 (below_size (qdb35_ HB.out))); have n1_ := Aside0.mk (below_step (qdb35_ HB.out) hb); clear HB; have HO120 := n0_; have HB := n1_; clear n0_ n1_; clear hb ho38; obtain ⟨Ao39, co39, eo39⟩ := Kd.R_slice HO120.out; subst eo39) | ((with_reducible refine gate_dst (N := 1) rfl ?_); refine box_event ?hg (N := 1) ?hd (cs := #[.int .i64 0, .string (⟨#[]⟩ : ByteArray), .slice none 0 0, .slice none 0 0, .int .i64 0]) (t := 26) ?hr ?_; (case hd => rfl); (case hg => rfl); (case hr => first | (go_simp; done) | (go_simp; rfl)); intro gb121 hg w40 hbox hb; have n0_ := Aside0.mk (Kd.R_below (q8524_ HO120.out) hb); have n1_ := Aside0.mk (below_step (qdb35_ HB.out) hb); have n2_ := Aside0.mk (hbox); have n3_ := Aside0.mk ((by rw [hg]; exact (below_size (qdb35_ HB.out)) : w.heap.size ≤ gb121)); have n4_ := Aside0.mk ((by rw [hg]; exact (below_size (qdb35_ HB.out)) : w.heap.size ≤ gb121)); clear HO120; clear HB; have HO120 := n0_; have HB := n1_; have BK121 := n2_; have GW121 := n3_; have GE121 := n4_; clear n0_ n1_ n2_ n3_ n4_; clear hb hbox hg; have hcz41_0 : w40.cell? ⟨gb121, 0, none⟩ = some (.int .i64 0) := (blk_cell BK121.out 0).trans rfl; have hcz41_1 : w40.cell? ⟨gb121, 1, none⟩ = some (.string (⟨#[]⟩ : ByteArray)) := (blk_cell BK121.out 1).trans rfl; have hcz41_2 : w40.cell? ⟨gb121, 2, none⟩ = some (.slice none 0 0) := (blk_cell BK121.out 2).trans rfl; have hcz41_3 : w40.cell? ⟨gb121, 3, none⟩ = some (.slice none 0 0) := (blk_cell BK121.out 3).trans rfl; have hcz41_4 : w40.cell? ⟨gb121, 4, none⟩ = some (.int .i64 0) := (blk_cell BK121.out 4).trans rfl; have hfz41_0 := blk_frozen BK121.out 0; have hfz41_1 := blk_frozen BK121.out 1; have hfz41_2 := blk_frozen BK121.out 2; have hfz41_3 := blk_frozen BK121.out 3; have hfz41_4 := blk_frozen BK121.out 4))
    have n0_ : Aside0 (Kd.R Kd.string 9 (((((w40.setCell ⟨gb121, 0, none⟩ (.int .i64 3)).setCell ⟨gb121, 1, none⟩ (.string (⟨#[]⟩ : ByteArray))).setCell ⟨gb121, 2, none⟩ (.slice none 0 0)).setCell ⟨gb121, 3, none⟩ (.slice Ao39 y118.length co39)).setCell ⟨gb121, 4, none⟩ (.int .i64 0)) w.heap.size (fun _ => True) (.slice Ao39 y118.length co39) y118) := ⟨by (with_reducible repeat (first | apply Kd.R_alloc | apply Kd.R_drewN | apply Kd.R_drew)); exact Kd.R_mono (Kd.R_far (p := ⟨gb121, 4, none⟩) (Kd.R_far (p := ⟨gb121, 3, none⟩) (Kd.R_far (p := ⟨gb121, 2, none⟩) (Kd.R_far (p := ⟨gb121, 1, none⟩) (Kd.R_far (p := ⟨gb121, 0, none⟩) (Kd.R_types HO120.out BK121.out (by decide)) (fun _ hk => hk.2) (.int .i64 3)) (fun _ hk => hk.2) (.string (⟨#[]⟩ : ByteArray))) (fun _ hk => hk.2) (.slice none 0 0)) (fun _ hk => hk.2) (.slice Ao39 y118.length co39)) (fun _ hk => hk.2) (.int .i64 0)) (fun _ hk => trivial)⟩
    have n1_ : Aside0 ((((((w40.setCell ⟨gb121, 0, none⟩ (.int .i64 3)).setCell ⟨gb121, 1, none⟩ (.string (⟨#[]⟩ : ByteArray))).setCell ⟨gb121, 2, none⟩ (.slice none 0 0)).setCell ⟨gb121, 3, none⟩ (.slice Ao39 y118.length co39)).setCell ⟨gb121, 4, none⟩ (.int .i64 0)).heap[gb121]? = some (.cells #[.int .i64 3, .string (⟨#[]⟩ : ByteArray), .slice none 0 0, .slice Ao39 y118.length co39, .int .i64 0] 26 (0, 0))) := ⟨by (with_reducible repeat (first | refine blk_drewN ?_ _ | refine blk_drew ?_ | refine blk_alloc ?_ _)); refine blk_put (cs := #[.int .i64 3, .string (⟨#[]⟩ : ByteArray), .slice none 0 0, .slice Ao39 y118.length co39, .int .i64 0]) ?_ 4 _ rfl; (with_reducible repeat (first | refine blk_drewN ?_ _ | refine blk_drew ?_ | refine blk_alloc ?_ _)); refine blk_put (cs := #[.int .i64 3, .string (⟨#[]⟩ : ByteArray), .slice none 0 0, .slice none 0 0, .int .i64 0]) ?_ 3 _ rfl; (with_reducible repeat (first | refine blk_drewN ?_ _ | refine blk_drew ?_ | refine blk_alloc ?_ _)); refine blk_put (cs := #[.int .i64 3, .string (⟨#[]⟩ : ByteArray), .slice none 0 0, .slice none 0 0, .int .i64 0]) ?_ 2 _ rfl; (with_reducible repeat (first | refine blk_drewN ?_ _ | refine blk_drew ?_ | refine blk_alloc ?_ _)); refine blk_put (cs := #[.int .i64 3, .string (⟨#[]⟩ : ByteArray), .slice none 0 0, .slice none 0 0, .int .i64 0]) ?_ 1 _ rfl; (with_reducible repeat (first | refine blk_drewN ?_ _ | refine blk_drew ?_ | refine blk_alloc ?_ _)); refine blk_put (cs := #[.int .i64 0, .string (⟨#[]⟩ : ByteArray), .slice none 0 0, .slice none 0 0, .int .i64 0]) ?_ 0 _ rfl; (with_reducible repeat (first | refine blk_drewN ?_ _ | refine blk_drew ?_ | refine blk_alloc ?_ _)); exact BK121.out⟩
    have n2_ : Aside0 (Below w.heap.size w (((((w40.setCell ⟨gb121, 0, none⟩ (.int .i64 3)).setCell ⟨gb121, 1, none⟩ (.string (⟨#[]⟩ : ByteArray))).setCell ⟨gb121, 2, none⟩ (.slice none 0 0)).setCell ⟨gb121, 3, none⟩ (.slice Ao39 y118.length co39)).setCell ⟨gb121, 4, none⟩ (.int .i64 0))) := ⟨(qed14_ HB.out GE121.out)⟩
    (try clear HO120)
    (try clear BK121)
    (try clear HB)
    generalize (((((w40.setCell ⟨gb121, 0, none⟩ (.int .i64 3)).setCell ⟨gb121, 1, none⟩ (.string (⟨#[]⟩ : ByteArray))).setCell ⟨gb121, 2, none⟩ (.slice none 0 0)).setCell ⟨gb121, 3, none⟩ (.slice Ao39 y118.length co39)).setCell ⟨gb121, 4, none⟩ (.int .i64 0)) = w42 at n0_ n1_ n2_ ⊢
    have HO120 := n0_
    have BK121 := n1_
    have HB := n2_
    clear n0_ n1_ n2_
    have n0_ := Aside0.mk (Kd.R_drew HO120.out)
    have n1_ := Aside0.mk (blk_drew BK121.out)
    have n2_ := Aside0.mk (below_drew1 HB.out)
    clear HO120
    clear BK121
    clear HB
    have HO120 := n0_
    have BK121 := n1_
    have HB := n2_
    clear n0_ n1_ n2_
    refine start_ (n := 24) (S := fun w' => w'.cell? ⟨gb121, 0, none⟩ = some (.int .i64 3) ∧ w'.cell? ⟨gb121, 1, none⟩ = some (.string (⟨#[]⟩ : ByteArray)) ∧ w'.cell? ⟨gb121, 2, none⟩ = some (.slice none 0 0) ∧ w'.cell? ⟨gb121, 3, none⟩ = some (.slice Ao39 y118.length co39) ∧ w'.cell? ⟨gb121, 4, none⟩ = some (.int .i64 0)) (ds := []) (ml_ 24 0) (by kernel_rfl) rfl rfl ⟨(blk_cell BK121.out 0).trans rfl, (blk_cell BK121.out 1).trans rfl, (blk_cell BK121.out 2).trans rfl, (blk_cell BK121.out 3).trans rfl, (blk_cell BK121.out 4).trans rfl⟩ (fun hHeld => ?_); refine with_tabW caravanlaw5_awake.tab2 caravanlaw5_awake.bits2 (fun HT_ HW_ => ?_)
    generalize w42.drew = w43 at HO120 BK121 HB hHeld ⊢
    refine pA_ 0 4 (ml_ 24 1) rfl rfl HT_.out ?_
    refine one_ (i := 1) (N := some 5) (ml_ 24 3) rfl rfl (one_of HT_.out (by kernel_rfl)) (by decide) (fun K hK => ?_)
    refine goes_ Try.func15 (by kernel_rfl) rfl #[.agg #[.int .i64 0, .string (⟨#[]⟩ : ByteArray), .slice none 0 0, .slice none 0 0, .int .i64 0]] (by rfl) rfl rfl qM_ ?_
    refine (item_Type.calls 0 (⟨#[]⟩ : ByteArray) _ _ ([] : List (S29)) _ _ ([] : List ByteArray) 0 t122 _ ?side1 ?side2 ?side3 ?side4 A1.out).mono ?_
    (case side1 => exact Kd.C_nil _ _)
    (case side2 => exact Nat.le_refl _)
    (case side3 => exact Kd.C_nil _ _)
    (case side4 => exact Nat.le_refl _)
    rintro e w44 ⟨rfl, hb⟩
    refine ⟨_, rfl, ?_⟩
    have n0_ := Aside0.mk (Kd.R_below (q8524_ HO120.out) hb)
    have n1_ := Aside0.mk (blk_below (g := gb121) (o := .cells #[.int .i64 3, .string (⟨#[]⟩ : ByteArray), .slice none 0 0, .slice Ao39 y118.length co39, .int .i64 0] 26 (0, 0)) (q1466_ BK121.out) hb)
    have n2_ := Aside0.mk (below_step (qed14_ HB.out GE121.out) hb)
    clear HO120
    clear BK121
    clear HB
    have HO120 := n0_
    have BK121 := n1_
    have HB := n2_
    clear n0_ n1_ n2_
    (try clear hb)
    (try clear hb2)
    (try clear hk)
    (try clear hi)
    refine hK.out _ _ ⟨(blk_cell BK121.out 0).trans rfl, (blk_cell BK121.out 1).trans rfl, (blk_cell BK121.out 2).trans rfl, (blk_cell BK121.out 3).trans rfl, (blk_cell BK121.out 4).trans rfl⟩ (fun hHeld => ?_)
    clear hK K
    refine nA_ 5 ?_
    refine pA_ 2 6 (ml_ 24 7) rfl rfl HT_.out ?_
    refine pA_ 3 7 (ml_ 24 15) rfl rfl HT_.out ?_
    refine t5_ 4 8 (ml_ 24 31) rfl rfl HT_.out HW_.out hHeld ?_
    refine one_ (i := 5) (N := some 9) (ml_ 24 63) rfl rfl (one_of HT_.out (by kernel_rfl)) (by decide) (fun K hK => ?_)
    refine goes_ Try.func15 (by kernel_rfl) rfl #[.agg #[.int .i64 3, .string (⟨#[]⟩ : ByteArray), .slice none 0 0, .slice Ao39 y118.length co39, .int .i64 0]] (by rfl) rfl rfl qM_ ?_
    refine (item_Type.calls 3 (⟨#[]⟩ : ByteArray) _ _ ([] : List (S29)) _ _ y118 0 t123 _ ?side1 ?side2 ?side3 ?side4 A3.out).mono ?_
    (case side1 => exact Kd.C_nil _ _)
    (case side2 => exact Nat.le_refl _)
    (case side3 => exact qC_ ((Kd.R_reads' HO120.out).2.2))
    (case side4 => exact (Kd.R_reads' HO120.out).2.1)
    rintro e w45 ⟨rfl, hb⟩
    refine ⟨_, rfl, ?_⟩
    have n0_ := Aside0.mk (Kd.R_below (q8524_ HO120.out) hb)
    have n1_ := Aside0.mk (blk_below (g := gb121) (o := .cells #[.int .i64 3, .string (⟨#[]⟩ : ByteArray), .slice none 0 0, .slice Ao39 y118.length co39, .int .i64 0] 26 (0, 0)) (q1466_ BK121.out) hb)
    have n2_ := Aside0.mk (below_step (qed14_ HB.out GE121.out) hb)
    clear HO120
    clear BK121
    clear HB
    have HO120 := n0_
    have BK121 := n1_
    have HB := n2_
    clear n0_ n1_ n2_
    (try clear hb)
    (try clear hb2)
    (try clear hk)
    (try clear hi)
    refine hK.out _ _ ⟨(blk_cell BK121.out 0).trans rfl, (blk_cell BK121.out 1).trans rfl, (blk_cell BK121.out 2).trans rfl, (blk_cell BK121.out 3).trans rfl, (blk_cell BK121.out 4).trans rfl⟩ (fun hHeld => ?_)
    clear hK K
    refine nA_ 9 ?_
    refine pA_ 6 10 (ml_ 24 127) rfl rfl HT_.out ?_
    refine pA_ 7 11 (ml_ 24 255) rfl rfl HT_.out ?_
    refine pA_ 8 12 (ml_ 24 511) rfl rfl HT_.out ?_
    refine t5_ 9 13 (ml_ 24 1023) rfl rfl HT_.out HW_.out hHeld ?_
    refine one_ (i := 10) (N := some 14) (ml_ 24 2047) rfl rfl (one_of HT_.out (by kernel_rfl)) (by decide) (fun K hK => ?_)
    refine goes_ Try.func9 (by kernel_rfl) rfl #[.agg #[.int .i64 3, .string (⟨#[]⟩ : ByteArray), .slice none 0 0, .slice Ao39 y118.length co39, .int .i64 0]] (by rfl) rfl rfl qM_ ?_
    refine (item_May.calls 3 (⟨#[]⟩ : ByteArray) _ _ ([] : List (S29)) _ _ y118 0 false _ ?side1 ?side2 ?side3 ?side4 A5.out).mono ?_
    (case side1 => exact Kd.C_nil _ _)
    (case side2 => exact Nat.le_refl _)
    (case side3 => exact qC_ ((Kd.R_reads' HO120.out).2.2))
    (case side4 => exact (Kd.R_reads' HO120.out).2.1)
    rintro e w46 ⟨rfl, hb⟩
    refine ⟨_, rfl, ?_⟩
    have n0_ := Aside0.mk (Kd.R_below (q8524_ HO120.out) hb)
    have n1_ := Aside0.mk (blk_below (g := gb121) (o := .cells #[.int .i64 3, .string (⟨#[]⟩ : ByteArray), .slice none 0 0, .slice Ao39 y118.length co39, .int .i64 0] 26 (0, 0)) (q1466_ BK121.out) hb)
    have n2_ := Aside0.mk (below_step (qed14_ HB.out GE121.out) hb)
    clear HO120
    clear BK121
    clear HB
    have HO120 := n0_
    have BK121 := n1_
    have HB := n2_
    clear n0_ n1_ n2_
    (try clear hb)
    (try clear hb2)
    (try clear hk)
    (try clear hi)
    refine hK.out _ _ ⟨(blk_cell BK121.out 0).trans rfl, (blk_cell BK121.out 1).trans rfl, (blk_cell BK121.out 2).trans rfl, (blk_cell BK121.out 3).trans rfl, (blk_cell BK121.out 4).trans rfl⟩ (fun hHeld => ?_)
    clear hK K
    refine nA_ 14 ?_
    refine pA_ 11 15 (ml_ 24 4095) rfl rfl HT_.out ?_
    refine pA_ 12 16 (ml_ 24 8191) rfl rfl HT_.out ?_
    refine pU_ 13 17 (ml_ 24 16383) rfl rfl HT_.out ?_
    refine pU_ 14 18 (ml_ 24 32767) rfl rfl HT_.out ?_
    refine pU_ 15 19 (ml_ 24 65535) rfl rfl HT_.out ?_
    refine pA_ 16 20 (ml_ 24 131071) rfl rfl HT_.out ?_
    refine pA_ 17 21 (ml_ 24 262143) rfl rfl HT_.out ?_
    refine pU_ 18 22 (ml_ 24 524287) rfl rfl HT_.out ?_
    refine pU_ 19 23 (ml_ 24 1048575) rfl rfl HT_.out ?_
    refine pU_ 20 24 (ml_ 24 2097151) rfl rfl HT_.out ?_
    refine pU_ 21 25 (ml_ 24 4194303) rfl rfl HT_.out ?_
    refine pA_ 22 26 (ml_ 24 8388607) rfl rfl HT_.out ?_
    refine pA_ 23 0 (ml_ 24 16777215) rfl rfl HT_.out ?_
    refine done_ (done_of HT_.out (by kernel_rfl)) ?_
    try go_wp2
    go_ret
    exact ⟨by first | rfl | (simp [errW_none, errW_some] <;> rfl) | (simp [*, errW_none, errW_some] <;> rfl), (qed14_ HB.out GE121.out)⟩
  ·rw [if_neg c4] at H
   have c4b0 : (t123.toList == ([108, 105, 115, 116] : List UInt8)) = false := beq_eq_false_iff_ne.mpr c4
   have c4b1 : (t123.toList != ([108, 105, 115, 116] : List UInt8)) = true := bne_iff_ne.mpr c4
   obtain rfl := Option.some.inj H
   go_enter Try.func10, Try.ntmps10
   try go_wp2_with (first | ((with_reducible refine gate_dst (N := 2) rfl ?_); refine Kd.R_lit Kd.string _ 9 ?hg (N := 2) ?hd (xs := ([(⟨#[97]⟩ : ByteArray)] : List ByteArray)) (inner := [.string (⟨#[97]⟩ : ByteArray)]) (ok := fun _ => True) (okp := fun _ => True) ?hr ?hp (fun _ hk => hk) trivial (Below.refl _ _) (Nat.le_refl _) (by simp) ?_; (case hd => rfl); (case hg => rfl); (case hr => first | (go_simp; done) | (go_simp; rfl)); (case hp => exact (Reps.one (show Kd.M Kd.string _ _ _ (⟨#[97]⟩ : ByteArray) [.string (⟨#[97]⟩ : ByteArray)] from rfl) (Reps.none _ _))); intro v119 w47 ho48 hb hg_ hnew_; clear hg_ hnew_; (first | rw [← Ny118.out] at ho48 | (simp only [Int.reduceToNat] at ho48; rw [← Ny118.out] at ho48)); have n0_ := Aside0.mk (Kd.R_lower ho48 (below_size (qdb35_ HB.out))); have n1_ := Aside0.mk (below_step (qdb35_ HB.out) hb); clear HB; have HO120 := n0_; have HB := n1_; clear n0_ n1_; clear hb ho48; obtain ⟨Ao49, co49, eo49⟩ := Kd.R_slice HO120.out; subst eo49) | ((with_reducible refine gate_dst (N := 1) rfl ?_); refine box_event ?hg (N := 1) ?hd (cs := #[.int .i64 0, .string (⟨#[]⟩ : ByteArray), .slice none 0 0, .slice none 0 0, .int .i64 0]) (t := 26) ?hr ?_; (case hd => rfl); (case hg => rfl); (case hr => first | (go_simp; done) | (go_simp; rfl)); intro gb121 hg w50 hbox hb; have n0_ := Aside0.mk (Kd.R_below (q8524_ HO120.out) hb); have n1_ := Aside0.mk (below_step (qdb35_ HB.out) hb); have n2_ := Aside0.mk (hbox); have n3_ := Aside0.mk ((by rw [hg]; exact (below_size (qdb35_ HB.out)) : w.heap.size ≤ gb121)); have n4_ := Aside0.mk ((by rw [hg]; exact (below_size (qdb35_ HB.out)) : w.heap.size ≤ gb121)); clear HO120; clear HB; have HO120 := n0_; have HB := n1_; have BK121 := n2_; have GW121 := n3_; have GE121 := n4_; clear n0_ n1_ n2_ n3_ n4_; clear hb hbox hg; have hcz51_0 : w50.cell? ⟨gb121, 0, none⟩ = some (.int .i64 0) := (blk_cell BK121.out 0).trans rfl; have hcz51_1 : w50.cell? ⟨gb121, 1, none⟩ = some (.string (⟨#[]⟩ : ByteArray)) := (blk_cell BK121.out 1).trans rfl; have hcz51_2 : w50.cell? ⟨gb121, 2, none⟩ = some (.slice none 0 0) := (blk_cell BK121.out 2).trans rfl; have hcz51_3 : w50.cell? ⟨gb121, 3, none⟩ = some (.slice none 0 0) := (blk_cell BK121.out 3).trans rfl; have hcz51_4 : w50.cell? ⟨gb121, 4, none⟩ = some (.int .i64 0) := (blk_cell BK121.out 4).trans rfl; have hfz51_0 := blk_frozen BK121.out 0; have hfz51_1 := blk_frozen BK121.out 1; have hfz51_2 := blk_frozen BK121.out 2; have hfz51_3 := blk_frozen BK121.out 3; have hfz51_4 := blk_frozen BK121.out 4))
   have n0_ : Aside0 (Kd.R Kd.string 9 (((((w50.setCell ⟨gb121, 0, none⟩ (.int .i64 3)).setCell ⟨gb121, 1, none⟩ (.string (⟨#[]⟩ : ByteArray))).setCell ⟨gb121, 2, none⟩ (.slice none 0 0)).setCell ⟨gb121, 3, none⟩ (.slice Ao49 y118.length co49)).setCell ⟨gb121, 4, none⟩ (.int .i64 0)) w.heap.size (fun _ => True) (.slice Ao49 y118.length co49) y118) := ⟨by (with_reducible repeat (first | apply Kd.R_alloc | apply Kd.R_drewN | apply Kd.R_drew)); exact Kd.R_mono (Kd.R_far (p := ⟨gb121, 4, none⟩) (Kd.R_far (p := ⟨gb121, 3, none⟩) (Kd.R_far (p := ⟨gb121, 2, none⟩) (Kd.R_far (p := ⟨gb121, 1, none⟩) (Kd.R_far (p := ⟨gb121, 0, none⟩) (Kd.R_types HO120.out BK121.out (by decide)) (fun _ hk => hk.2) (.int .i64 3)) (fun _ hk => hk.2) (.string (⟨#[]⟩ : ByteArray))) (fun _ hk => hk.2) (.slice none 0 0)) (fun _ hk => hk.2) (.slice Ao49 y118.length co49)) (fun _ hk => hk.2) (.int .i64 0)) (fun _ hk => trivial)⟩
   have n1_ : Aside0 ((((((w50.setCell ⟨gb121, 0, none⟩ (.int .i64 3)).setCell ⟨gb121, 1, none⟩ (.string (⟨#[]⟩ : ByteArray))).setCell ⟨gb121, 2, none⟩ (.slice none 0 0)).setCell ⟨gb121, 3, none⟩ (.slice Ao49 y118.length co49)).setCell ⟨gb121, 4, none⟩ (.int .i64 0)).heap[gb121]? = some (.cells #[.int .i64 3, .string (⟨#[]⟩ : ByteArray), .slice none 0 0, .slice Ao49 y118.length co49, .int .i64 0] 26 (0, 0))) := ⟨by (with_reducible repeat (first | refine blk_drewN ?_ _ | refine blk_drew ?_ | refine blk_alloc ?_ _)); refine blk_put (cs := #[.int .i64 3, .string (⟨#[]⟩ : ByteArray), .slice none 0 0, .slice Ao49 y118.length co49, .int .i64 0]) ?_ 4 _ rfl; (with_reducible repeat (first | refine blk_drewN ?_ _ | refine blk_drew ?_ | refine blk_alloc ?_ _)); refine blk_put (cs := #[.int .i64 3, .string (⟨#[]⟩ : ByteArray), .slice none 0 0, .slice none 0 0, .int .i64 0]) ?_ 3 _ rfl; (with_reducible repeat (first | refine blk_drewN ?_ _ | refine blk_drew ?_ | refine blk_alloc ?_ _)); refine blk_put (cs := #[.int .i64 3, .string (⟨#[]⟩ : ByteArray), .slice none 0 0, .slice none 0 0, .int .i64 0]) ?_ 2 _ rfl; (with_reducible repeat (first | refine blk_drewN ?_ _ | refine blk_drew ?_ | refine blk_alloc ?_ _)); refine blk_put (cs := #[.int .i64 3, .string (⟨#[]⟩ : ByteArray), .slice none 0 0, .slice none 0 0, .int .i64 0]) ?_ 1 _ rfl; (with_reducible repeat (first | refine blk_drewN ?_ _ | refine blk_drew ?_ | refine blk_alloc ?_ _)); refine blk_put (cs := #[.int .i64 0, .string (⟨#[]⟩ : ByteArray), .slice none 0 0, .slice none 0 0, .int .i64 0]) ?_ 0 _ rfl; (with_reducible repeat (first | refine blk_drewN ?_ _ | refine blk_drew ?_ | refine blk_alloc ?_ _)); exact BK121.out⟩
   have n2_ : Aside0 (Below w.heap.size w (((((w50.setCell ⟨gb121, 0, none⟩ (.int .i64 3)).setCell ⟨gb121, 1, none⟩ (.string (⟨#[]⟩ : ByteArray))).setCell ⟨gb121, 2, none⟩ (.slice none 0 0)).setCell ⟨gb121, 3, none⟩ (.slice Ao49 y118.length co49)).setCell ⟨gb121, 4, none⟩ (.int .i64 0))) := ⟨(qed14_ HB.out GE121.out)⟩
   (try clear HO120)
   (try clear BK121)
   (try clear HB)
   generalize (((((w50.setCell ⟨gb121, 0, none⟩ (.int .i64 3)).setCell ⟨gb121, 1, none⟩ (.string (⟨#[]⟩ : ByteArray))).setCell ⟨gb121, 2, none⟩ (.slice none 0 0)).setCell ⟨gb121, 3, none⟩ (.slice Ao49 y118.length co49)).setCell ⟨gb121, 4, none⟩ (.int .i64 0)) = w52 at n0_ n1_ n2_ ⊢
   have HO120 := n0_
   have BK121 := n1_
   have HB := n2_
   clear n0_ n1_ n2_
   have n0_ := Aside0.mk (Kd.R_drew HO120.out)
   have n1_ := Aside0.mk (blk_drew BK121.out)
   have n2_ := Aside0.mk (below_drew1 HB.out)
   clear HO120
   clear BK121
   clear HB
   have HO120 := n0_
   have BK121 := n1_
   have HB := n2_
   clear n0_ n1_ n2_
   refine start_ (n := 24) (S := fun w' => w'.cell? ⟨gb121, 0, none⟩ = some (.int .i64 3) ∧ w'.cell? ⟨gb121, 1, none⟩ = some (.string (⟨#[]⟩ : ByteArray)) ∧ w'.cell? ⟨gb121, 2, none⟩ = some (.slice none 0 0) ∧ w'.cell? ⟨gb121, 3, none⟩ = some (.slice Ao49 y118.length co49) ∧ w'.cell? ⟨gb121, 4, none⟩ = some (.int .i64 0)) (ds := []) (ml_ 24 0) (by kernel_rfl) rfl rfl ⟨(blk_cell BK121.out 0).trans rfl, (blk_cell BK121.out 1).trans rfl, (blk_cell BK121.out 2).trans rfl, (blk_cell BK121.out 3).trans rfl, (blk_cell BK121.out 4).trans rfl⟩ (fun hHeld => ?_); refine with_tabW caravanlaw5_awake.tab2 caravanlaw5_awake.bits2 (fun HT_ HW_ => ?_)
   generalize w52.drew = w53 at HO120 BK121 HB hHeld ⊢
   refine pA_ 0 4 (ml_ 24 1) rfl rfl HT_.out ?_
   refine one_ (i := 1) (N := some 5) (ml_ 24 3) rfl rfl (one_of HT_.out (by kernel_rfl)) (by decide) (fun K hK => ?_)
   refine goes_ Try.func15 (by kernel_rfl) rfl #[.agg #[.int .i64 0, .string (⟨#[]⟩ : ByteArray), .slice none 0 0, .slice none 0 0, .int .i64 0]] (by rfl) rfl rfl qM_ ?_
   refine (item_Type.calls 0 (⟨#[]⟩ : ByteArray) _ _ ([] : List (S29)) _ _ ([] : List ByteArray) 0 t122 _ ?side1 ?side2 ?side3 ?side4 A1.out).mono ?_
   (case side1 => exact Kd.C_nil _ _)
   (case side2 => exact Nat.le_refl _)
   (case side3 => exact Kd.C_nil _ _)
   (case side4 => exact Nat.le_refl _)
   rintro e w54 ⟨rfl, hb⟩
   refine ⟨_, rfl, ?_⟩
   have n0_ := Aside0.mk (Kd.R_below (q8524_ HO120.out) hb)
   have n1_ := Aside0.mk (blk_below (g := gb121) (o := .cells #[.int .i64 3, .string (⟨#[]⟩ : ByteArray), .slice none 0 0, .slice Ao49 y118.length co49, .int .i64 0] 26 (0, 0)) (q1466_ BK121.out) hb)
   have n2_ := Aside0.mk (below_step (qed14_ HB.out GE121.out) hb)
   clear HO120
   clear BK121
   clear HB
   have HO120 := n0_
   have BK121 := n1_
   have HB := n2_
   clear n0_ n1_ n2_
   (try clear hb)
   (try clear hb2)
   (try clear hk)
   (try clear hi)
   refine hK.out _ _ ⟨(blk_cell BK121.out 0).trans rfl, (blk_cell BK121.out 1).trans rfl, (blk_cell BK121.out 2).trans rfl, (blk_cell BK121.out 3).trans rfl, (blk_cell BK121.out 4).trans rfl⟩ (fun hHeld => ?_)
   clear hK K
   refine nA_ 5 ?_
   refine pA_ 2 6 (ml_ 24 7) rfl rfl HT_.out ?_
   refine pA_ 3 7 (ml_ 24 15) rfl rfl HT_.out ?_
   refine t5_ 4 8 (ml_ 24 31) rfl rfl HT_.out HW_.out hHeld ?_
   refine one_ (i := 5) (N := some 9) (ml_ 24 63) rfl rfl (one_of HT_.out (by kernel_rfl)) (by decide) (fun K hK => ?_)
   refine goes_ Try.func15 (by kernel_rfl) rfl #[.agg #[.int .i64 3, .string (⟨#[]⟩ : ByteArray), .slice none 0 0, .slice Ao49 y118.length co49, .int .i64 0]] (by rfl) rfl rfl qM_ ?_
   refine (item_Type.calls 3 (⟨#[]⟩ : ByteArray) _ _ ([] : List (S29)) _ _ y118 0 t123 _ ?side1 ?side2 ?side3 ?side4 A3.out).mono ?_
   (case side1 => exact Kd.C_nil _ _)
   (case side2 => exact Nat.le_refl _)
   (case side3 => exact qC_ ((Kd.R_reads' HO120.out).2.2))
   (case side4 => exact (Kd.R_reads' HO120.out).2.1)
   rintro e w55 ⟨rfl, hb⟩
   refine ⟨_, rfl, ?_⟩
   have n0_ := Aside0.mk (Kd.R_below (q8524_ HO120.out) hb)
   have n1_ := Aside0.mk (blk_below (g := gb121) (o := .cells #[.int .i64 3, .string (⟨#[]⟩ : ByteArray), .slice none 0 0, .slice Ao49 y118.length co49, .int .i64 0] 26 (0, 0)) (q1466_ BK121.out) hb)
   have n2_ := Aside0.mk (below_step (qed14_ HB.out GE121.out) hb)
   clear HO120
   clear BK121
   clear HB
   have HO120 := n0_
   have BK121 := n1_
   have HB := n2_
   clear n0_ n1_ n2_
   (try clear hb)
   (try clear hb2)
   (try clear hk)
   (try clear hi)
   refine hK.out _ _ ⟨(blk_cell BK121.out 0).trans rfl, (blk_cell BK121.out 1).trans rfl, (blk_cell BK121.out 2).trans rfl, (blk_cell BK121.out 3).trans rfl, (blk_cell BK121.out 4).trans rfl⟩ (fun hHeld => ?_)
   clear hK K
   refine nA_ 9 ?_
   refine pA_ 6 10 (ml_ 24 127) rfl rfl HT_.out ?_
   refine pA_ 7 11 (ml_ 24 255) rfl rfl HT_.out ?_
   refine pA_ 8 12 (ml_ 24 511) rfl rfl HT_.out ?_
   refine pU_ 9 13 (ml_ 24 1023) rfl rfl HT_.out ?_
   refine pU_ 10 14 (ml_ 24 2047) rfl rfl HT_.out ?_
   refine pA_ 11 15 (ml_ 24 4095) rfl rfl HT_.out ?_
   refine pA_ 12 16 (ml_ 24 8191) rfl rfl HT_.out ?_
   refine pU_ 13 17 (ml_ 24 16383) rfl rfl HT_.out ?_
   refine pU_ 14 18 (ml_ 24 32767) rfl rfl HT_.out ?_
   refine pU_ 15 19 (ml_ 24 65535) rfl rfl HT_.out ?_
   refine pA_ 16 20 (ml_ 24 131071) rfl rfl HT_.out ?_
   refine pA_ 17 21 (ml_ 24 262143) rfl rfl HT_.out ?_
   refine pU_ 18 22 (ml_ 24 524287) rfl rfl HT_.out ?_
   refine pU_ 19 23 (ml_ 24 1048575) rfl rfl HT_.out ?_
   refine pU_ 20 24 (ml_ 24 2097151) rfl rfl HT_.out ?_
   refine pU_ 21 25 (ml_ 24 4194303) rfl rfl HT_.out ?_
   refine pA_ 22 26 (ml_ 24 8388607) rfl rfl HT_.out ?_
   refine pA_ 23 0 (ml_ 24 16777215) rfl rfl HT_.out ?_
   refine done_ (done_of HT_.out (by kernel_rfl)) ?_
   try go_wp2
   go_ret
   exact ⟨by first | rfl | (simp [errW_none, errW_some] <;> rfl) | (simp [*, errW_none, errW_some] <;> rfl), (qed14_ HB.out GE121.out)⟩
 ·rw [if_neg c2] at H
  have c2b0 : (t122.toList == ([110, 111, 110, 101] : List UInt8)) = false := beq_eq_false_iff_ne.mpr c2
  have c2b1 : (t122.toList != ([110, 111, 110, 101] : List UInt8)) = true := bne_iff_ne.mpr c2
  obtain rfl := Option.some.inj H
  go_enter Try.func10, Try.ntmps10
  try go_wp2_with (first | ((with_reducible refine gate_dst (N := 2) rfl ?_); refine Kd.R_lit Kd.string _ 9 ?hg (N := 2) ?hd (xs := ([(⟨#[97]⟩ : ByteArray)] : List ByteArray)) (inner := [.string (⟨#[97]⟩ : ByteArray)]) (ok := fun _ => True) (okp := fun _ => True) ?hr ?hp (fun _ hk => hk) trivial (Below.refl _ _) (Nat.le_refl _) (by simp) ?_; (case hd => rfl); (case hg => rfl); (case hr => first | (go_simp; done) | (go_simp; rfl)); (case hp => exact (Reps.one (show Kd.M Kd.string _ _ _ (⟨#[97]⟩ : ByteArray) [.string (⟨#[97]⟩ : ByteArray)] from rfl) (Reps.none _ _))); intro v119 w56 ho57 hb hg_ hnew_; clear hg_ hnew_; (first | rw [← Ny118.out] at ho57 | (simp only [Int.reduceToNat] at ho57; rw [← Ny118.out] at ho57)); have n0_ := Aside0.mk (Kd.R_lower ho57 (below_size (qdb35_ HB.out))); have n1_ := Aside0.mk (below_step (qdb35_ HB.out) hb); clear HB; have HO120 := n0_; have HB := n1_; clear n0_ n1_; clear hb ho57; obtain ⟨Ao58, co58, eo58⟩ := Kd.R_slice HO120.out; subst eo58) | ((with_reducible refine gate_dst (N := 1) rfl ?_); refine box_event ?hg (N := 1) ?hd (cs := #[.int .i64 0, .string (⟨#[]⟩ : ByteArray), .slice none 0 0, .slice none 0 0, .int .i64 0]) (t := 26) ?hr ?_; (case hd => rfl); (case hg => rfl); (case hr => first | (go_simp; done) | (go_simp; rfl)); intro gb121 hg w59 hbox hb; have n0_ := Aside0.mk (Kd.R_below (q8524_ HO120.out) hb); have n1_ := Aside0.mk (below_step (qdb35_ HB.out) hb); have n2_ := Aside0.mk (hbox); have n3_ := Aside0.mk ((by rw [hg]; exact (below_size (qdb35_ HB.out)) : w.heap.size ≤ gb121)); have n4_ := Aside0.mk ((by rw [hg]; exact (below_size (qdb35_ HB.out)) : w.heap.size ≤ gb121)); clear HO120; clear HB; have HO120 := n0_; have HB := n1_; have BK121 := n2_; have GW121 := n3_; have GE121 := n4_; clear n0_ n1_ n2_ n3_ n4_; clear hb hbox hg; have hcz60_0 : w59.cell? ⟨gb121, 0, none⟩ = some (.int .i64 0) := (blk_cell BK121.out 0).trans rfl; have hcz60_1 : w59.cell? ⟨gb121, 1, none⟩ = some (.string (⟨#[]⟩ : ByteArray)) := (blk_cell BK121.out 1).trans rfl; have hcz60_2 : w59.cell? ⟨gb121, 2, none⟩ = some (.slice none 0 0) := (blk_cell BK121.out 2).trans rfl; have hcz60_3 : w59.cell? ⟨gb121, 3, none⟩ = some (.slice none 0 0) := (blk_cell BK121.out 3).trans rfl; have hcz60_4 : w59.cell? ⟨gb121, 4, none⟩ = some (.int .i64 0) := (blk_cell BK121.out 4).trans rfl; have hfz60_0 := blk_frozen BK121.out 0; have hfz60_1 := blk_frozen BK121.out 1; have hfz60_2 := blk_frozen BK121.out 2; have hfz60_3 := blk_frozen BK121.out 3; have hfz60_4 := blk_frozen BK121.out 4))
  have n0_ : Aside0 (Kd.R Kd.string 9 (((((w59.setCell ⟨gb121, 0, none⟩ (.int .i64 3)).setCell ⟨gb121, 1, none⟩ (.string (⟨#[]⟩ : ByteArray))).setCell ⟨gb121, 2, none⟩ (.slice none 0 0)).setCell ⟨gb121, 3, none⟩ (.slice Ao58 y118.length co58)).setCell ⟨gb121, 4, none⟩ (.int .i64 0)) w.heap.size (fun _ => True) (.slice Ao58 y118.length co58) y118) := ⟨by (with_reducible repeat (first | apply Kd.R_alloc | apply Kd.R_drewN | apply Kd.R_drew)); exact Kd.R_mono (Kd.R_far (p := ⟨gb121, 4, none⟩) (Kd.R_far (p := ⟨gb121, 3, none⟩) (Kd.R_far (p := ⟨gb121, 2, none⟩) (Kd.R_far (p := ⟨gb121, 1, none⟩) (Kd.R_far (p := ⟨gb121, 0, none⟩) (Kd.R_types HO120.out BK121.out (by decide)) (fun _ hk => hk.2) (.int .i64 3)) (fun _ hk => hk.2) (.string (⟨#[]⟩ : ByteArray))) (fun _ hk => hk.2) (.slice none 0 0)) (fun _ hk => hk.2) (.slice Ao58 y118.length co58)) (fun _ hk => hk.2) (.int .i64 0)) (fun _ hk => trivial)⟩
  have n1_ : Aside0 ((((((w59.setCell ⟨gb121, 0, none⟩ (.int .i64 3)).setCell ⟨gb121, 1, none⟩ (.string (⟨#[]⟩ : ByteArray))).setCell ⟨gb121, 2, none⟩ (.slice none 0 0)).setCell ⟨gb121, 3, none⟩ (.slice Ao58 y118.length co58)).setCell ⟨gb121, 4, none⟩ (.int .i64 0)).heap[gb121]? = some (.cells #[.int .i64 3, .string (⟨#[]⟩ : ByteArray), .slice none 0 0, .slice Ao58 y118.length co58, .int .i64 0] 26 (0, 0))) := ⟨by (with_reducible repeat (first | refine blk_drewN ?_ _ | refine blk_drew ?_ | refine blk_alloc ?_ _)); refine blk_put (cs := #[.int .i64 3, .string (⟨#[]⟩ : ByteArray), .slice none 0 0, .slice Ao58 y118.length co58, .int .i64 0]) ?_ 4 _ rfl; (with_reducible repeat (first | refine blk_drewN ?_ _ | refine blk_drew ?_ | refine blk_alloc ?_ _)); refine blk_put (cs := #[.int .i64 3, .string (⟨#[]⟩ : ByteArray), .slice none 0 0, .slice none 0 0, .int .i64 0]) ?_ 3 _ rfl; (with_reducible repeat (first | refine blk_drewN ?_ _ | refine blk_drew ?_ | refine blk_alloc ?_ _)); refine blk_put (cs := #[.int .i64 3, .string (⟨#[]⟩ : ByteArray), .slice none 0 0, .slice none 0 0, .int .i64 0]) ?_ 2 _ rfl; (with_reducible repeat (first | refine blk_drewN ?_ _ | refine blk_drew ?_ | refine blk_alloc ?_ _)); refine blk_put (cs := #[.int .i64 3, .string (⟨#[]⟩ : ByteArray), .slice none 0 0, .slice none 0 0, .int .i64 0]) ?_ 1 _ rfl; (with_reducible repeat (first | refine blk_drewN ?_ _ | refine blk_drew ?_ | refine blk_alloc ?_ _)); refine blk_put (cs := #[.int .i64 0, .string (⟨#[]⟩ : ByteArray), .slice none 0 0, .slice none 0 0, .int .i64 0]) ?_ 0 _ rfl; (with_reducible repeat (first | refine blk_drewN ?_ _ | refine blk_drew ?_ | refine blk_alloc ?_ _)); exact BK121.out⟩
  have n2_ : Aside0 (Below w.heap.size w (((((w59.setCell ⟨gb121, 0, none⟩ (.int .i64 3)).setCell ⟨gb121, 1, none⟩ (.string (⟨#[]⟩ : ByteArray))).setCell ⟨gb121, 2, none⟩ (.slice none 0 0)).setCell ⟨gb121, 3, none⟩ (.slice Ao58 y118.length co58)).setCell ⟨gb121, 4, none⟩ (.int .i64 0))) := ⟨(qed14_ HB.out GE121.out)⟩
  (try clear HO120)
  (try clear BK121)
  (try clear HB)
  generalize (((((w59.setCell ⟨gb121, 0, none⟩ (.int .i64 3)).setCell ⟨gb121, 1, none⟩ (.string (⟨#[]⟩ : ByteArray))).setCell ⟨gb121, 2, none⟩ (.slice none 0 0)).setCell ⟨gb121, 3, none⟩ (.slice Ao58 y118.length co58)).setCell ⟨gb121, 4, none⟩ (.int .i64 0)) = w61 at n0_ n1_ n2_ ⊢
  have HO120 := n0_
  have BK121 := n1_
  have HB := n2_
  clear n0_ n1_ n2_
  have n0_ := Aside0.mk (Kd.R_drew HO120.out)
  have n1_ := Aside0.mk (blk_drew BK121.out)
  have n2_ := Aside0.mk (below_drew1 HB.out)
  clear HO120
  clear BK121
  clear HB
  have HO120 := n0_
  have BK121 := n1_
  have HB := n2_
  clear n0_ n1_ n2_
  refine start_ (n := 24) (S := fun w' => True) (ds := []) (ml_ 24 0) (by kernel_rfl) rfl rfl trivial (fun hHeld => ?_); refine with_tabW caravanlaw5_awake.tab2 caravanlaw5_awake.bits2 (fun HT_ HW_ => ?_)
  generalize w61.drew = w62 at HO120 BK121 HB hHeld ⊢
  refine pA_ 0 4 (ml_ 24 1) rfl rfl HT_.out ?_
  refine one_ (i := 1) (N := some 5) (ml_ 24 3) rfl rfl (one_of HT_.out (by kernel_rfl)) (by decide) (fun K hK => ?_)
  refine goes_ Try.func15 (by kernel_rfl) rfl #[.agg #[.int .i64 0, .string (⟨#[]⟩ : ByteArray), .slice none 0 0, .slice none 0 0, .int .i64 0]] (by rfl) rfl rfl qM_ ?_
  refine (item_Type.calls 0 (⟨#[]⟩ : ByteArray) _ _ ([] : List (S29)) _ _ ([] : List ByteArray) 0 t122 _ ?side1 ?side2 ?side3 ?side4 A1.out).mono ?_
  (case side1 => exact Kd.C_nil _ _)
  (case side2 => exact Nat.le_refl _)
  (case side3 => exact Kd.C_nil _ _)
  (case side4 => exact Nat.le_refl _)
  rintro e w63 ⟨rfl, hb⟩
  refine ⟨_, rfl, ?_⟩
  have n0_ := Aside0.mk (Kd.R_below (q8524_ HO120.out) hb)
  have n1_ := Aside0.mk (blk_below (g := gb121) (o := .cells #[.int .i64 3, .string (⟨#[]⟩ : ByteArray), .slice none 0 0, .slice Ao58 y118.length co58, .int .i64 0] 26 (0, 0)) (q1466_ BK121.out) hb)
  have n2_ := Aside0.mk (below_step (qed14_ HB.out GE121.out) hb)
  clear HO120
  clear BK121
  clear HB
  have HO120 := n0_
  have BK121 := n1_
  have HB := n2_
  clear n0_ n1_ n2_
  (try clear hb)
  (try clear hb2)
  (try clear hk)
  (try clear hi)
  refine hK.out _ _ trivial (fun hHeld => ?_)
  clear hK K
  refine nA_ 5 ?_
  refine pA_ 2 6 (ml_ 24 7) rfl rfl HT_.out ?_
  refine pA_ 3 7 (ml_ 24 15) rfl rfl HT_.out ?_
  refine pU_ 4 8 (ml_ 24 31) rfl rfl HT_.out ?_
  refine pU_ 5 9 (ml_ 24 63) rfl rfl HT_.out ?_
  refine pU_ 6 10 (ml_ 24 127) rfl rfl HT_.out ?_
  refine pA_ 7 11 (ml_ 24 255) rfl rfl HT_.out ?_
  refine pA_ 8 12 (ml_ 24 511) rfl rfl HT_.out ?_
  refine pU_ 9 13 (ml_ 24 1023) rfl rfl HT_.out ?_
  refine pU_ 10 14 (ml_ 24 2047) rfl rfl HT_.out ?_
  refine pA_ 11 15 (ml_ 24 4095) rfl rfl HT_.out ?_
  refine pA_ 12 16 (ml_ 24 8191) rfl rfl HT_.out ?_
  refine pU_ 13 17 (ml_ 24 16383) rfl rfl HT_.out ?_
  refine pU_ 14 18 (ml_ 24 32767) rfl rfl HT_.out ?_
  refine pU_ 15 19 (ml_ 24 65535) rfl rfl HT_.out ?_
  refine pA_ 16 20 (ml_ 24 131071) rfl rfl HT_.out ?_
  refine pA_ 17 21 (ml_ 24 262143) rfl rfl HT_.out ?_
  refine pU_ 18 22 (ml_ 24 524287) rfl rfl HT_.out ?_
  refine pU_ 19 23 (ml_ 24 1048575) rfl rfl HT_.out ?_
  refine pU_ 20 24 (ml_ 24 2097151) rfl rfl HT_.out ?_
  refine pU_ 21 25 (ml_ 24 4194303) rfl rfl HT_.out ?_
  refine pA_ 22 26 (ml_ 24 8388607) rfl rfl HT_.out ?_
  refine pA_ 23 0 (ml_ 24 16777215) rfl rfl HT_.out ?_
  refine done_ (done_of HT_.out (by kernel_rfl)) ?_
  try go_wp2
  go_ret
  exact ⟨by first | rfl | (simp [errW_none, errW_some] <;> rfl) | (simp [*, errW_none, errW_some] <;> rfl), (qed14_ HB.out GE121.out)⟩

end Go.Proofs.Ytbmimcpllpgcaaa.G
