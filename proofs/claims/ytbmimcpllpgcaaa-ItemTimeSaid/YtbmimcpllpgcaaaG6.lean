/- What functions of the translation come to, and their calls' proofs; by a program of mine over the kit's print, with contracts given by hand beside. Conditions: where a plain function tells none, nothing is said. -/
import Derived.Test.YtbmimcpllpgcaaaG0
import Derived.Test.YtbmimcpllpgcaaaG5
namespace Go.Proofs.Ytbmimcpllpgcaaa.G
open Go.RowKit Go.Proofs.YtbmimcpllpgcaaaW.PrintWords Go.Proofs.YtbmimcpllpgcaaaW.PrintLast Go.Proofs.YtbmimcpllpgcaaaW.PrintMore
attribute [local go_sem] max2_int min2_int max_two min_two max_three min_three max_four min_four   -- for this text's walks alone
set_option linter.unusedVariables false
set_option linter.unusedSimpArgs false

/-! ### caravanlaw5_Make: function 20 -/
mutual
def caravanlaw5_Make.j0 : Nat → List Int → Int → ByteArray → Int → Option (Int × ByteArray × (List (S29)) × List ByteArray × Int)
 | 0, _, _, _, _ => none
 | k + 1, x0, x243000, x243001, x243004 => caravanlaw5_Make.l0 k x0 1 x243000 x243001 ([] : List (S29)) ([] : List ByteArray) x243004
def caravanlaw5_Make.l0 : Nat → List Int → Int → Int → ByteArray → List (S29) → List ByteArray → Int → Option (Int × ByteArray × (List (S29)) × List ByteArray × Int)
 | 0, _, _, _, _, _, _, _ => none
 | k + 1, x0, x6, x243000, x243001, x243002, x243003, x243004 => if x6 < (x0.length : Int) then (caravanlaw5_Make.j2 k x0 x6 (decide (x6 < 9)) x243000 x243001 x243002 x243003 x243004) else (caravanlaw5_Make.j2 k x0 x6 false x243000 x243001 x243002 x243003 x243004)
def caravanlaw5_Make.j2 : Nat → List Int → Int → Bool → Int → ByteArray → List (S29) → List ByteArray → Int → Option (Int × ByteArray × (List (S29)) × List ByteArray × Int)
 | 0, _, _, _, _, _, _, _, _ => none
 | k + 1, x0, x6, x32, x243000, x243001, x243002, x243003, x243004 => if x32 = true then (if 0 ≤ x6 then (if x6 < (x0.length : Int) then ((some (([(97 + (Int.tmod (rd x0 x6) 5)) % 256] : List Int) : List Int)).bind fun y246 => ((caravanref1_Digits.f k (Int.tmod (wrap64 (rd x0 x6)) 3)).bind fun t250 => (if (strOfNums y246).size + t250.size ≤ 9223372036854775807 then (if x243000 = 1 then (if x243001.size + ((strOfNums y246) ++ t250).size ≤ 9223372036854775807 then (caravanlaw5_Make.l0 k x0 (wrap64 (x6 + 1)) x243000 (x243001 ++ ((strOfNums y246) ++ t250)) x243002 x243003 x243004) else (none)) else (if x243000 = 2 then ((caravanref1_Digits.f k (wrap64 ((wrap64 (rd x0 x6)) - 100))).bind fun t252 => ((caravanref5_HSet.f k x243002 ((strOfNums y246) ++ t250) t252).bind fun t253 => (caravanlaw5_Make.l0 k x0 (wrap64 (x6 + 1)) x243000 x243001 t253 x243003 x243004))) else (if x243000 = 3 then (if x243003.length < 8796093022208 then (caravanlaw5_Make.l0 k x0 (wrap64 (x6 + 1)) x243000 x243001 x243002 (x243003 ++ [(strOfNums y246) ++ t250]) x243004) else (none)) else ((caravanref5_SAdd.f k x243003 ((strOfNums y246) ++ t250)).bind fun t259 => (caravanlaw5_Make.l0 k x0 (wrap64 (x6 + 1)) x243000 x243001 x243002 t259 x243004))))) else (none)))) else (none)) else (none)) else (if (x0.length : Int) = 1 then (if x243000 = 1 then (some (x243000, x243001, x243002, x243003, x243004)) else (if 0 < (x0.length : Int) then ((caravanref1_Digits.f k (wrap64 (rd x0 0))).bind fun t244 => (some (1, t244, ([] : List (S29)), ([] : List ByteArray), x243004))) else (none))) else (some (x243000, x243001, x243002, x243003, x243004)))
end
def caravanlaw5_Make.f (k : Nat) (l0 : List Int) (a1 : Int) : Option (Int × ByteArray × (List (S29)) × List ByteArray × Int) := if (l0.length : Int) = 0 then (some (1, (⟨#[]⟩ : ByteArray), ([] : List (S29)), ([] : List ByteArray), 0)) else (if 0 < (l0.length : Int) then (if (Int.tmod a1 3) = 0 then (caravanlaw5_Make.j0 k l0 (wrap64 (1 + (Int.tmod (wrap64 (rd l0 0)) 4))) (⟨#[]⟩ : ByteArray) (wrap64 (a1))) else (caravanlaw5_Make.j0 k l0 (wrap64 (1 + (Int.tmod (wrap64 (rd l0 0)) 4))) (⟨#[]⟩ : ByteArray) 0)) else (none))
theorem caravanlaw5_Make.mono_l : ∀ k, (∀ y0 y1 y2 y3, LeO (caravanlaw5_Make.j0 k y0 y1 y2 y3) (caravanlaw5_Make.j0 (k + 1) y0 y1 y2 y3)) ∧ (∀ y0 y1 y2 y3 y4 y5 y6, LeO (caravanlaw5_Make.l0 k y0 y1 y2 y3 y4 y5 y6) (caravanlaw5_Make.l0 (k + 1) y0 y1 y2 y3 y4 y5 y6)) ∧ (∀ y0 y1 y2 y3 y4 y5 y6 y7, LeO (caravanlaw5_Make.j2 k y0 y1 y2 y3 y4 y5 y6 y7) (caravanlaw5_Make.j2 (k + 1) y0 y1 y2 y3 y4 y5 y6 y7))
 | 0 => ⟨fun _ _ _ _ r h => by simp [caravanlaw5_Make.j0] at h, fun _ _ _ _ _ _ _ r h => by simp [caravanlaw5_Make.l0] at h, fun _ _ _ _ _ _ _ _ r h => by simp [caravanlaw5_Make.j2] at h⟩
 | k + 1 => by
  obtain ⟨ih0, ih1, ih2⟩ := caravanlaw5_Make.mono_l k
  refine ⟨?_, ?_, ?_⟩
  ·intro y0 y1 y2 y3
   unfold caravanlaw5_Make.j0
   repeat' first
   | (with_reducible exact ih0 _ _ _ _)
   | (with_reducible exact ih1 _ _ _ _ _ _ _)
   | (with_reducible exact ih2 _ _ _ _ _ _ _ _)
   | (with_reducible exact caravanref1_Digits.mono _ _)
   | (with_reducible exact caravanref5_HSet.mono _ _ _ _)
   | (with_reducible exact caravanref5_SAdd.mono _ _ _)
   | (with_reducible exact LeO.refl _)
   | (with_reducible exact LeO.none _)
   | (with_reducible refine LeO.ite ?_ ?_)
   | (with_reducible refine LeO.bind ?_ (fun _ => ?_))
   | exact ih0 _ _ _ _
   | exact ih1 _ _ _ _ _ _ _
   | exact ih2 _ _ _ _ _ _ _ _
   | exact caravanref1_Digits.mono _ _
   | exact caravanref5_HSet.mono _ _ _ _
   | exact caravanref5_SAdd.mono _ _ _
   | exact LeO.none _
   | refine LeO.ite ?_ ?_
   | refine LeO.bind ?_ (fun _ => ?_)
  ·intro y0 y1 y2 y3 y4 y5 y6
   unfold caravanlaw5_Make.l0
   repeat' first
   | (with_reducible exact ih0 _ _ _ _)
   | (with_reducible exact ih1 _ _ _ _ _ _ _)
   | (with_reducible exact ih2 _ _ _ _ _ _ _ _)
   | (with_reducible exact caravanref1_Digits.mono _ _)
   | (with_reducible exact caravanref5_HSet.mono _ _ _ _)
   | (with_reducible exact caravanref5_SAdd.mono _ _ _)
   | (with_reducible exact LeO.refl _)
   | (with_reducible exact LeO.none _)
   | (with_reducible refine LeO.ite ?_ ?_)
   | (with_reducible refine LeO.bind ?_ (fun _ => ?_))
   | exact ih0 _ _ _ _
   | exact ih1 _ _ _ _ _ _ _
   | exact ih2 _ _ _ _ _ _ _ _
   | exact caravanref1_Digits.mono _ _
   | exact caravanref5_HSet.mono _ _ _ _
   | exact caravanref5_SAdd.mono _ _ _
   | exact LeO.none _
   | refine LeO.ite ?_ ?_
   | refine LeO.bind ?_ (fun _ => ?_)
  ·intro y0 y1 y2 y3 y4 y5 y6 y7
   unfold caravanlaw5_Make.j2
   repeat' first
   | (with_reducible exact ih0 _ _ _ _)
   | (with_reducible exact ih1 _ _ _ _ _ _ _)
   | (with_reducible exact ih2 _ _ _ _ _ _ _ _)
   | (with_reducible exact caravanref1_Digits.mono _ _)
   | (with_reducible exact caravanref5_HSet.mono _ _ _ _)
   | (with_reducible exact caravanref5_SAdd.mono _ _ _)
   | (with_reducible exact LeO.refl _)
   | (with_reducible exact LeO.none _)
   | (with_reducible refine LeO.ite ?_ ?_)
   | (with_reducible refine LeO.bind ?_ (fun _ => ?_))
   | exact ih0 _ _ _ _
   | exact ih1 _ _ _ _ _ _ _
   | exact ih2 _ _ _ _ _ _ _ _
   | exact caravanref1_Digits.mono _ _
   | exact caravanref5_HSet.mono _ _ _ _
   | exact caravanref5_SAdd.mono _ _ _
   | exact LeO.none _
   | refine LeO.ite ?_ ?_
   | refine LeO.bind ?_ (fun _ => ?_)
theorem caravanlaw5_Make.mono : ∀ a0 a1 k, LeO (caravanlaw5_Make.f k a0 a1) (caravanlaw5_Make.f (k + 1) a0 a1) := by
 intro a0 a1 k
 obtain ⟨ih0, ih1, ih2⟩ := caravanlaw5_Make.mono_l k
 unfold caravanlaw5_Make.f
 repeat' first
  | (with_reducible exact ih0 _ _ _ _)
  | (with_reducible exact ih1 _ _ _ _ _ _ _)
  | (with_reducible exact ih2 _ _ _ _ _ _ _ _)
  | (with_reducible exact caravanref1_Digits.mono _ _)
  | (with_reducible exact caravanref5_HSet.mono _ _ _ _)
  | (with_reducible exact caravanref5_SAdd.mono _ _ _)
  | (with_reducible exact LeO.refl _)
  | (with_reducible exact LeO.none _)
  | (with_reducible refine LeO.ite ?_ ?_)
  | (with_reducible refine LeO.bind ?_ (fun _ => ?_))
  | exact ih0 _ _ _ _
  | exact ih1 _ _ _ _ _ _ _
  | exact ih2 _ _ _ _ _ _ _ _
  | exact caravanref1_Digits.mono _ _
  | exact caravanref5_HSet.mono _ _ _ _
  | exact caravanref5_SAdd.mono _ _ _
  | exact LeO.none _
  | refine LeO.ite ?_ ?_
  | refine LeO.bind ?_ (fun _ => ?_)
def caravanlaw5_Make.T9 : Bool × List (List Nat × List Nat) := (true, [([], []), ([], []), ([0, 1], [0, 1]), ([2], [2]), ([3], [3]), ([4], [4]), ([5], [5]), ([6], [6]), ([], []), ([], []), ([8, 9], [8, 9]), ([10], [10]), ([11], [11]), ([12], [12]), ([13], [13]), ([7, 14], [7, 14]), ([15, 14, 0, 1, 2, 3, 4, 5, 6, 7, 8, 9, 10, 11, 12, 13, 14, 15], [15])])
def caravanlaw5_Make.B9 : List Nat := [0, 0, 3, 7, 15, 31, 63, 127, 0, 0, 768, 1792, 3840, 7936, 16128, 32767, 65535]
theorem caravanlaw5_Make.tab9 : rtab .any (opsOf Try.f20 9) = caravanlaw5_Make.T9 := by kernel_rfl
theorem caravanlaw5_Make.bits9 : waitsOk caravanlaw5_Make.T9.2 caravanlaw5_Make.B9 = true := by kernel_rfl
def caravanlaw5_Make.T15 : Bool × List (List Nat × List Nat) := (true, [([], []), ([0], [0]), ([], []), ([], []), ([], []), ([3, 4], [3, 4]), ([5], [5]), ([6], [6]), ([7], [7]), ([8], [8]), ([1, 2, 9, 9], [1, 2, 9]), ([0, 1, 2, 3, 4, 5, 6, 7, 8, 9, 10], []), ([11, 10, 10, 0, 1, 2, 3, 4, 5, 6, 7, 8, 9, 10], [10, 11])])
def caravanlaw5_Make.B15 : List Nat := [0, 1, 0, 0, 0, 24, 56, 120, 248, 504, 1023, 2047, 4095]
theorem caravanlaw5_Make.tab15 : rtab .any (opsOf Try.f20 15) = caravanlaw5_Make.T15 := by kernel_rfl
theorem caravanlaw5_Make.bits15 : waitsOk caravanlaw5_Make.T15.2 caravanlaw5_Make.B15 = true := by kernel_rfl
def caravanlaw5_Make.T19 : Bool × List (List Nat × List Nat) := (true, [([], []), ([0], [0]), ([1], [1]), ([2], [2]), ([3], [3]), ([], []), ([5], [5]), ([4, 6], [4, 6]), ([7, 4, 0, 1, 2, 3, 4, 5, 6, 7], [7])])
def caravanlaw5_Make.B19 : List Nat := [0, 1, 3, 7, 15, 0, 32, 127, 255]
theorem caravanlaw5_Make.tab19 : rtab .any (opsOf Try.f20 19) = caravanlaw5_Make.T19 := by kernel_rfl
theorem caravanlaw5_Make.bits19 : waitsOk caravanlaw5_Make.T19.2 caravanlaw5_Make.B19 = true := by kernel_rfl
set_option maxHeartbeats 8000000 in
set_option maxRecDepth 100000 in
theorem caravanlaw5_Make.calls (k : Nat) (A0 : Option Addr) (c0 : Nat) (l0 : List Int) (a1 : Int) (r1 : Int) (r2 : ByteArray) (r3 : List (S29)) (r4 : List ByteArray) (r5 : Int) (w : World) (hr0 : Kd.C (Kd.int .u8) w A0 l0.length l0) (hc0 : l0.length ≤ c0) (h : caravanlaw5_Make.f k l0 a1 = some (r1, r2, r3, r4, r5)) :
 Calls Try.prog 20 #[.slice A0 l0.length c0, .int .u8 a1] w fun e w' => ∃ v2_ v3_ : Value, e = .returned (.agg #[.int .i64 r1, .string r2, v2_, v3_, .int .i64 r5]) ∧ Kd.R k29 29 w' w.heap.size (fun _ => True) v2_ r3 ∧ Kd.R Kd.string 9 w' w.heap.size (fun _ => True) v3_ r4 ∧ Below w.heap.size w w' := by
 have hu26 := Try.underlying26
 have HR0 := Aside0.mk hr0
 have HC0 := Aside0.mk hc0
 clear hr0 hc0
 have HB := Aside0.mk (Below.refl w.heap.size w)
 have H : (if (l0.length : Int) = 0 then (some (1, (⟨#[]⟩ : ByteArray), ([] : List (S29)), ([] : List ByteArray), 0)) else (if 0 < (l0.length : Int) then (if (Int.tmod a1 3) = 0 then (caravanlaw5_Make.j0 k l0 (wrap64 (1 + (Int.tmod (wrap64 (rd l0 0)) 4))) (⟨#[]⟩ : ByteArray) (wrap64 (a1))) else (caravanlaw5_Make.j0 k l0 (wrap64 (1 + (Int.tmod (wrap64 (rd l0 0)) 4))) (⟨#[]⟩ : ByteArray) 0)) else (none))) = some (r1, r2, r3, r4, r5) := h
 clear h
 by_cases c3 : (l0.length : Int) = 0
 ·rw [if_pos c3] at H
  have c3b0 : ((l0.length : Int) == 0) = true := beq_iff_eq.mpr c3
  have c3b1 : ((l0.length : Int) != 0) = false := bne_eq_false_iff_eq.mpr c3
  clear c3
  simp only [Option.some.injEq, Prod.mk.injEq] at H
  obtain ⟨rfl, rfl, rfl, rfl, rfl⟩ := H
  go_enter Try.func20, Try.ntmps20
  go_wp2_with (first | ((with_reducible refine gate_dst (N := 4) rfl ?_); refine box_event ?hg (N := 4) ?hd (cs := #[.int .i64 0, .string (⟨#[]⟩ : ByteArray), .slice none 0 0, .slice none 0 0, .int .i64 0]) (t := 26) ?hr ?_; (case hd => rfl); (case hg => rfl); (case hr => first | (go_simp; done) | (go_simp; rfl)); intro gb240 hg w4 hbox hb; have n0_ := Aside0.mk (below_step (qdb35_ HB.out) hb); have n1_ := Aside0.mk (hbox); have n2_ := Aside0.mk ((by rw [hg]; exact (below_size (qdb35_ HB.out)) : w.heap.size ≤ gb240)); have n3_ := Aside0.mk ((by rw [hg]; exact (below_size (qdb35_ HB.out)) : w.heap.size ≤ gb240)); clear HB; have HB := n0_; have BK240 := n1_; have GW240 := n2_; have GE240 := n3_; clear n0_ n1_ n2_ n3_; clear hb hbox hg; have hcz5_0 : w4.cell? ⟨gb240, 0, none⟩ = some (.int .i64 0) := (blk_cell BK240.out 0).trans rfl; have hcz5_1 : w4.cell? ⟨gb240, 1, none⟩ = some (.string (⟨#[]⟩ : ByteArray)) := (blk_cell BK240.out 1).trans rfl; have hcz5_2 : w4.cell? ⟨gb240, 2, none⟩ = some (.slice none 0 0) := (blk_cell BK240.out 2).trans rfl; have hcz5_3 : w4.cell? ⟨gb240, 3, none⟩ = some (.slice none 0 0) := (blk_cell BK240.out 3).trans rfl; have hcz5_4 : w4.cell? ⟨gb240, 4, none⟩ = some (.int .i64 0) := (blk_cell BK240.out 4).trans rfl; have hfz5_0 := blk_frozen BK240.out 0; have hfz5_1 := blk_frozen BK240.out 1; have hfz5_2 := blk_frozen BK240.out 2; have hfz5_3 := blk_frozen BK240.out 3; have hfz5_4 := blk_frozen BK240.out 4))
  refine bodyPost_ret (results_cell_row rfl _ _ gb240 26 #[.int .i64 1, .string (⟨#[]⟩ : ByteArray), .slice none 0 0, .slice none 0 0, .int .i64 0] (0, 0) _ rfl (by (with_reducible repeat (first | refine blk_drewN ?_ _ | refine blk_drew ?_ | refine blk_alloc ?_ _)); refine blk_put (cs := #[.int .i64 1, .string (⟨#[]⟩ : ByteArray), .slice none 0 0, .slice none 0 0, .int .i64 0]) ?_ 4 _ rfl; (with_reducible repeat (first | refine blk_drewN ?_ _ | refine blk_drew ?_ | refine blk_alloc ?_ _)); refine blk_put (cs := #[.int .i64 1, .string (⟨#[]⟩ : ByteArray), .slice none 0 0, .slice none 0 0, .int .i64 0]) ?_ 3 _ rfl; (with_reducible repeat (first | refine blk_drewN ?_ _ | refine blk_drew ?_ | refine blk_alloc ?_ _)); refine blk_put (cs := #[.int .i64 1, .string (⟨#[]⟩ : ByteArray), .slice none 0 0, .slice none 0 0, .int .i64 0]) ?_ 2 _ rfl; (with_reducible repeat (first | refine blk_drewN ?_ _ | refine blk_drew ?_ | refine blk_alloc ?_ _)); refine blk_put (cs := #[.int .i64 1, .string (⟨#[]⟩ : ByteArray), .slice none 0 0, .slice none 0 0, .int .i64 0]) ?_ 1 _ rfl; (with_reducible repeat (first | refine blk_drewN ?_ _ | refine blk_drew ?_ | refine blk_alloc ?_ _)); refine blk_put (cs := #[.int .i64 0, .string (⟨#[]⟩ : ByteArray), .slice none 0 0, .slice none 0 0, .int .i64 0]) ?_ 0 _ rfl; (with_reducible repeat (first | refine blk_drewN ?_ _ | refine blk_drew ?_ | refine blk_alloc ?_ _)); exact BK240.out) Try.underlying26 rfl (by kernel_rfl)) rfl ?_
  exact ⟨_, _, by first | rfl | (simp [errW_none, errW_some] <;> rfl) | (simp [*, errW_none, errW_some] <;> rfl), by first | exact Kd.R_nil _ _ _ _ _ | exact Kd.N_nil _ _ _ _ _ | exact Kd.V_nil _ _ _ _ _ | exact Kd.Q_nil _ _ _ _ _ | exact Kd.S_nil _ _ _ _ _, by first | exact Kd.R_nil _ _ _ _ _ | exact Kd.N_nil _ _ _ _ _ | exact Kd.V_nil _ _ _ _ _ | exact Kd.Q_nil _ _ _ _ _ | exact Kd.S_nil _ _ _ _ _, (qed14_ HB.out GE240.out)⟩
 ·rw [if_neg c3] at H
  have c3b0 : ((l0.length : Int) == 0) = false := beq_eq_false_iff_ne.mpr c3
  have c3b1 : ((l0.length : Int) != 0) = true := bne_iff_ne.mpr c3
  have c3b2 : ¬ (l0 = []) := fun h_ => c3 (by rw [h_]; rfl)
  by_cases c6 : 0 < (l0.length : Int)
  ·rw [if_pos c6] at H
   have c6b0 : decide (0 < (l0.length : Int)) = true := decide_eq_true c6
   have c6b1 : decide (0 < l0.length) = true := decide_eq_true (by omega)
   clear c6
   have HC7 := Aside0.mk H
   clear H
   go_enter Try.func20, Try.ntmps20
   go_upto_if 21 with (first | ((with_reducible refine gate_dst (N := 4) rfl ?_); refine box_event ?hg (N := 4) ?hd (cs := #[.int .i64 0, .string (⟨#[]⟩ : ByteArray), .slice none 0 0, .slice none 0 0, .int .i64 0]) (t := 26) ?hr ?_; (case hd => rfl); (case hg => rfl); (case hr => first | (go_simp; done) | (go_simp; rfl)); intro gb240 hg w8 hbox hb; have n0_ := Aside0.mk (below_step (qdb35_ HB.out) hb); have n1_ := Aside0.mk (hbox); have n2_ := Aside0.mk ((by rw [hg]; exact (below_size (qdb35_ HB.out)) : w.heap.size ≤ gb240)); have n3_ := Aside0.mk ((by rw [hg]; exact (below_size (qdb35_ HB.out)) : w.heap.size ≤ gb240)); clear HB; have HB := n0_; have BK240 := n1_; have GW240 := n2_; have GE240 := n3_; clear n0_ n1_ n2_ n3_; clear hb hbox hg; have p241 : 0 ≤ (0 : Int) := (by omega); have q241 : 0 < (l0.length : Int) := of_decide_eq_true (by first | (with_reducible assumption) | assumption); obtain ⟨ad241, e241, hx241_0⟩ := Kd.at_int HR0.out 0 p241 q241; cases e241; have qi241 : (0 < l0.length) = True := eq_true (by omega); (try rw [show ((0 : Int)).toNat = 0 from rfl] at hx241_0); (try rw [Addr.add_zero'] at hx241_0); replace hx241_0 := (HB.out.cell (World.block_lt_of_cell? w _ hx241_0)).trans hx241_0; replace p241 := eq_true p241; replace q241 := eq_true q241) | ((with_reducible refine gate_dst (N := 5) rfl ?_); refine box_event ?hg (N := 5) ?hd (cs := #[.int .i64 0, .string (⟨#[]⟩ : ByteArray), .slice none 0 0, .slice none 0 0, .int .i64 0]) (t := 26) ?hr ?_; (case hd => rfl); (case hg => rfl); (case hr => first | (go_simp; done) | (go_simp; rfl)); intro gb242 hg w9 hbox hb; have n0_ := Aside0.mk (blk_below (g := gb240) (o := .cells #[.int .i64 0, .string (⟨#[]⟩ : ByteArray), .slice none 0 0, .slice none 0 0, .int .i64 0] 26 (0, 0)) (q1466_ BK240.out) hb); have n1_ := Aside0.mk (below_step (qed14_ HB.out GE240.out) hb); have n2_ := Aside0.mk (hbox); have n3_ := Aside0.mk ((by rw [hg]; exact (below_size (qed14_ HB.out GE240.out)) : w.heap.size ≤ gb242)); have n4_ := Aside0.mk ((by rw [hg]; exact (below_size (qed14_ HB.out GE240.out)) : w.heap.size ≤ gb242)); have n5_ := Aside0.mk ((by rw [hg]; exact Nat.ne_of_lt (blk_lt (g := gb240) (o := .cells #[.int .i64 0, .string (⟨#[]⟩ : ByteArray), .slice none 0 0, .slice none 0 0, .int .i64 0] 26 (0, 0)) (q1466_ BK240.out)) : gb240 ≠ gb242)); have n6_ := Aside0.mk ((by rw [hg]; exact Nat.ne_of_gt (blk_lt (g := gb240) (o := .cells #[.int .i64 0, .string (⟨#[]⟩ : ByteArray), .slice none 0 0, .slice none 0 0, .int .i64 0] 26 (0, 0)) (q1466_ BK240.out)) : gb242 ≠ gb240)); clear BK240; clear HB; have BK240 := n0_; have HB := n1_; have BK242 := n2_; have GW242 := n3_; have GE242 := n4_; have NB240_242 := n5_; have NB242_240 := n6_; clear n0_ n1_ n2_ n3_ n4_ n5_ n6_; clear hb hbox hg; have hnb10 := NB242_240.out; have hnc10 := NB240_242.out; have hcz11_0 : w9.cell? ⟨gb242, 0, none⟩ = some (.int .i64 0) := (blk_cell BK242.out 0).trans rfl; have hcz11_1 : w9.cell? ⟨gb242, 1, none⟩ = some (.string (⟨#[]⟩ : ByteArray)) := (blk_cell BK242.out 1).trans rfl; have hcz11_2 : w9.cell? ⟨gb242, 2, none⟩ = some (.slice none 0 0) := (blk_cell BK242.out 2).trans rfl; have hcz11_3 : w9.cell? ⟨gb242, 3, none⟩ = some (.slice none 0 0) := (blk_cell BK242.out 3).trans rfl; have hcz11_4 : w9.cell? ⟨gb242, 4, none⟩ = some (.int .i64 0) := (blk_cell BK242.out 4).trans rfl; have hfz11_0 := blk_frozen BK242.out 0; have hfz11_1 := blk_frozen BK242.out 1; have hfz11_2 := blk_frozen BK242.out 2; have hfz11_3 := blk_frozen BK242.out 3; have hfz11_4 := blk_frozen BK242.out 4))
   (try simp only [Act.put, List.setIfInBounds_toArray, List.set_cons_zero, List.set_cons_succ])
   go_cut [] (fun wc => ∃ (kq : Nat) (x243004_6 : Int), Aside0 (caravanlaw5_Make.j0 kq l0 (wrap64 (1 + (Int.tmod (wrap64 (rd l0 0)) 4))) (⟨#[]⟩ : ByteArray) x243004_6 = some (r1, r2, r3, r4, r5)) ∧ Aside0 (kq ≤ k) ∧ Aside0 (wc.heap[gb240]? = some (.cells #[.int .i64 0, .string (⟨#[]⟩ : ByteArray), (.slice none 0 0), (.slice none 0 0), .int .i64 0] 26 (0, 0))) ∧ Aside0 (wc.heap[gb242]? = some (.cells #[.int .i64 (wrap64 (1 + (Int.tmod (wrap64 (rd l0 0)) 4))), .string (⟨#[]⟩ : ByteArray), (.slice none 0 0), (.slice none 0 0), .int .i64 x243004_6] 26 (0, 0))) ∧ Aside0 (Below w.heap.size w wc))
   case first =>
    have H := HC7.out
    clear HC7
    by_cases c12 : (Int.tmod a1 3) = 0
    ·rw [if_pos c12] at H
     have c12b0 : ((Int.tmod a1 3) == 0) = true := beq_iff_eq.mpr c12
     have c12b1 : ((Int.tmod a1 3) != 0) = false := bne_eq_false_iff_eq.mpr c12
     clear c12
     (first | rw [c12b0] | (simp only [i64_w, i32_w]; rw [c12b0]) | skip)
     have H' := Aside0.mk H
     clear H
     have hnb13 := NB242_240.out
     have hnc13 := NB240_242.out
     have hcz14_0 : w9.cell? ⟨gb242, 0, none⟩ = some (.int .i64 0) := (blk_cell BK242.out 0).trans rfl
     have hcz14_1 : w9.cell? ⟨gb242, 1, none⟩ = some (.string (⟨#[]⟩ : ByteArray)) := (blk_cell BK242.out 1).trans rfl
     have hcz14_2 : w9.cell? ⟨gb242, 2, none⟩ = some (.slice none 0 0) := (blk_cell BK242.out 2).trans rfl
     have hcz14_3 : w9.cell? ⟨gb242, 3, none⟩ = some (.slice none 0 0) := (blk_cell BK242.out 3).trans rfl
     have hcz14_4 : w9.cell? ⟨gb242, 4, none⟩ = some (.int .i64 0) := (blk_cell BK242.out 4).trans rfl
     have hfz14_0 := blk_frozen BK242.out 0
     have hfz14_1 := blk_frozen BK242.out 1
     have hfz14_2 := blk_frozen BK242.out 2
     have hfz14_3 := blk_frozen BK242.out 3
     have hfz14_4 := blk_frozen BK242.out 4
     go_wp2
     go_meet
     case rel => exact ⟨_, (wrap64 (a1)), H', ⟨by first | omega | exact Nat.le_refl _⟩, ⟨by (with_reducible repeat (first | refine blk_drewN ?_ _ | refine blk_drew ?_ | refine blk_alloc ?_ _)); refine blk_far ?_ NB240_242.out _; (with_reducible repeat (first | refine blk_drewN ?_ _ | refine blk_drew ?_ | refine blk_alloc ?_ _)); refine blk_far ?_ NB240_242.out _; (with_reducible repeat (first | refine blk_drewN ?_ _ | refine blk_drew ?_ | refine blk_alloc ?_ _)); refine blk_far ?_ NB240_242.out _; (with_reducible repeat (first | refine blk_drewN ?_ _ | refine blk_drew ?_ | refine blk_alloc ?_ _)); refine blk_far ?_ NB240_242.out _; (with_reducible repeat (first | refine blk_drewN ?_ _ | refine blk_drew ?_ | refine blk_alloc ?_ _)); refine blk_far ?_ NB240_242.out _; (with_reducible repeat (first | refine blk_drewN ?_ _ | refine blk_drew ?_ | refine blk_alloc ?_ _)); refine blk_far ?_ NB240_242.out _; (with_reducible repeat (first | refine blk_drewN ?_ _ | refine blk_drew ?_ | refine blk_alloc ?_ _)); exact BK240.out⟩, ⟨by (with_reducible repeat (first | refine blk_drewN ?_ _ | refine blk_drew ?_ | refine blk_alloc ?_ _)); refine blk_put (cs := #[.int .i64 (wrap64 (1 + (Int.tmod (wrap64 (rd l0 0)) 4))), .string (⟨#[]⟩ : ByteArray), .slice none 0 0, .slice none 0 0, .int .i64 0]) ?_ 4 _ rfl; (with_reducible repeat (first | refine blk_drewN ?_ _ | refine blk_drew ?_ | refine blk_alloc ?_ _)); refine blk_put (cs := #[.int .i64 (wrap64 (1 + (Int.tmod (wrap64 (rd l0 0)) 4))), .string (⟨#[]⟩ : ByteArray), .slice none 0 0, .slice none 0 0, .int .i64 0]) ?_ 4 _ rfl; (with_reducible repeat (first | refine blk_drewN ?_ _ | refine blk_drew ?_ | refine blk_alloc ?_ _)); refine blk_put (cs := #[.int .i64 (wrap64 (1 + (Int.tmod (wrap64 (rd l0 0)) 4))), .string (⟨#[]⟩ : ByteArray), .slice none 0 0, .slice none 0 0, .int .i64 0]) ?_ 3 _ rfl; (with_reducible repeat (first | refine blk_drewN ?_ _ | refine blk_drew ?_ | refine blk_alloc ?_ _)); refine blk_put (cs := #[.int .i64 (wrap64 (1 + (Int.tmod (wrap64 (rd l0 0)) 4))), .string (⟨#[]⟩ : ByteArray), .slice none 0 0, .slice none 0 0, .int .i64 0]) ?_ 2 _ rfl; (with_reducible repeat (first | refine blk_drewN ?_ _ | refine blk_drew ?_ | refine blk_alloc ?_ _)); refine blk_put (cs := #[.int .i64 (wrap64 (1 + (Int.tmod (wrap64 (rd l0 0)) 4))), .string (⟨#[]⟩ : ByteArray), .slice none 0 0, .slice none 0 0, .int .i64 0]) ?_ 1 _ rfl; (with_reducible repeat (first | refine blk_drewN ?_ _ | refine blk_drew ?_ | refine blk_alloc ?_ _)); refine blk_put (cs := #[.int .i64 0, .string (⟨#[]⟩ : ByteArray), .slice none 0 0, .slice none 0 0, .int .i64 0]) ?_ 0 _ rfl; (with_reducible repeat (first | refine blk_drewN ?_ _ | refine blk_drew ?_ | refine blk_alloc ?_ _)); exact BK242.out⟩, ⟨(q8f57_ HB.out GE240.out GE242.out)⟩⟩
    ·rw [if_neg c12] at H
     have c12b0 : ((Int.tmod a1 3) == 0) = false := beq_eq_false_iff_ne.mpr c12
     have c12b1 : ((Int.tmod a1 3) != 0) = true := bne_iff_ne.mpr c12
     (first | rw [c12b0] | (simp only [i64_w, i32_w]; rw [c12b0]) | skip)
     have H' := Aside0.mk H
     clear H
     go_wp2
     go_meet
     case rel => exact ⟨_, (0), H', ⟨by first | omega | exact Nat.le_refl _⟩, ⟨by (with_reducible repeat (first | refine blk_drewN ?_ _ | refine blk_drew ?_ | refine blk_alloc ?_ _)); refine blk_far ?_ NB240_242.out _; (with_reducible repeat (first | refine blk_drewN ?_ _ | refine blk_drew ?_ | refine blk_alloc ?_ _)); refine blk_far ?_ NB240_242.out _; (with_reducible repeat (first | refine blk_drewN ?_ _ | refine blk_drew ?_ | refine blk_alloc ?_ _)); refine blk_far ?_ NB240_242.out _; (with_reducible repeat (first | refine blk_drewN ?_ _ | refine blk_drew ?_ | refine blk_alloc ?_ _)); refine blk_far ?_ NB240_242.out _; (with_reducible repeat (first | refine blk_drewN ?_ _ | refine blk_drew ?_ | refine blk_alloc ?_ _)); refine blk_far ?_ NB240_242.out _; (with_reducible repeat (first | refine blk_drewN ?_ _ | refine blk_drew ?_ | refine blk_alloc ?_ _)); exact BK240.out⟩, ⟨by (with_reducible repeat (first | refine blk_drewN ?_ _ | refine blk_drew ?_ | refine blk_alloc ?_ _)); refine blk_put (cs := #[.int .i64 (wrap64 (1 + (Int.tmod (wrap64 (rd l0 0)) 4))), .string (⟨#[]⟩ : ByteArray), .slice none 0 0, .slice none 0 0, .int .i64 0]) ?_ 4 _ rfl; (with_reducible repeat (first | refine blk_drewN ?_ _ | refine blk_drew ?_ | refine blk_alloc ?_ _)); refine blk_put (cs := #[.int .i64 (wrap64 (1 + (Int.tmod (wrap64 (rd l0 0)) 4))), .string (⟨#[]⟩ : ByteArray), .slice none 0 0, .slice none 0 0, .int .i64 0]) ?_ 3 _ rfl; (with_reducible repeat (first | refine blk_drewN ?_ _ | refine blk_drew ?_ | refine blk_alloc ?_ _)); refine blk_put (cs := #[.int .i64 (wrap64 (1 + (Int.tmod (wrap64 (rd l0 0)) 4))), .string (⟨#[]⟩ : ByteArray), .slice none 0 0, .slice none 0 0, .int .i64 0]) ?_ 2 _ rfl; (with_reducible repeat (first | refine blk_drewN ?_ _ | refine blk_drew ?_ | refine blk_alloc ?_ _)); refine blk_put (cs := #[.int .i64 (wrap64 (1 + (Int.tmod (wrap64 (rd l0 0)) 4))), .string (⟨#[]⟩ : ByteArray), .slice none 0 0, .slice none 0 0, .int .i64 0]) ?_ 1 _ rfl; (with_reducible repeat (first | refine blk_drewN ?_ _ | refine blk_drew ?_ | refine blk_alloc ?_ _)); refine blk_put (cs := #[.int .i64 0, .string (⟨#[]⟩ : ByteArray), .slice none 0 0, .slice none 0 0, .int .i64 0]) ?_ 0 _ rfl; (with_reducible repeat (first | refine blk_drewN ?_ _ | refine blk_drew ?_ | refine blk_alloc ?_ _)); exact BK242.out⟩, ⟨(q8f57_ HB.out GE240.out GE242.out)⟩⟩
   case rest =>
    clear HC7
    try clear c1
    try clear c2
    try clear p2
    try clear q2
    try clear hx2
    try clear qi2
    try clear c3
    try clear c3b0
    try clear c3b1
    try clear c3b2
    try clear c6
    try clear c6b0
    try clear c6b1
    try clear p6
    try clear c10
    try clear c12
    try clear c12b0
    try clear c12b1
    try clear c13
    try clear hcz11_0
    try clear hcz11_1
    try clear hcz11_2
    try clear hcz11_3
    try clear hcz11_4
    try clear hcz14_0
    try clear hcz14_1
    try clear hcz14_2
    try clear hcz14_3
    try clear hcz14_4
    try clear hcz5_0
    try clear hcz5_1
    try clear hcz5_2
    try clear hcz5_3
    try clear hcz5_4
    try clear hfz11_0
    try clear hfz11_1
    try clear hfz11_2
    try clear hfz11_3
    try clear hfz11_4
    try clear hfz14_0
    try clear hfz14_1
    try clear hfz14_2
    try clear hfz14_3
    try clear hfz14_4
    try clear hfz5_0
    try clear hfz5_1
    try clear hfz5_2
    try clear hfz5_3
    try clear hfz5_4
    try clear hx241_0
    try clear p241
    try clear q241
    obtain ⟨kq, x243004_6, HA, HJ6, BK240, BK242, HB⟩ := hcut
    cases kq with
    | zero => exact absurd HA.out (by simp [caravanlaw5_Make.j0])
    | succ kj6 =>
     have H := HA.out
     clear HA
     simp only [caravanlaw5_Make.j0] at H
     have H' := Aside0.mk H
     clear H
     go_wp2
     go_loopg [6] kj6 (fun kq v6 w' => ∃ (x6_2 : Int) (x243001_2 : ByteArray) (x243002_2 : List (S29)) (x243003_2 : List ByteArray) (u243002 : Value) (u243003 : Value), v6 = .int .i64 x6_2 ∧ Aside0 (caravanlaw5_Make.l0 kq l0 x6_2 (wrap64 (1 + (Int.tmod (wrap64 (rd l0 0)) 4))) x243001_2 x243002_2 x243003_2 x243004_6 = some (r1, r2, r3, r4, r5)) ∧ Aside0 (kq ≤ kj6) ∧ Aside0 (Kd.R k29 29 w' w.heap.size (fun _ => True) u243002 x243002_2) ∧ Aside0 (Kd.R Kd.string 9 w' w.heap.size (fun _ => True) u243003 x243003_2) ∧ Aside0 (w'.heap[gb240]? = some (.cells #[.int .i64 0, .string (⟨#[]⟩ : ByteArray), (.slice none 0 0), (.slice none 0 0), .int .i64 0] 26 (0, 0))) ∧ Aside0 (w'.heap[gb242]? = some (.cells #[.int .i64 (wrap64 (1 + (Int.tmod (wrap64 (rd l0 0)) 4))), .string x243001_2, u243002, u243003, .int .i64 x243004_6] 26 (0, 0))) ∧ Aside0 (Below w.heap.size w w'))
     case atStart => exact ⟨(1), ((⟨#[]⟩ : ByteArray)), (([] : List (S29))), (([] : List ByteArray)), (.slice none 0 0), (.slice none 0 0), (by first | rfl | (simp; done) | (simp [*]; done)), H', ⟨Nat.le_refl _⟩, ⟨by first | exact Kd.R_nil _ _ _ _ _ | exact Kd.N_nil _ _ _ _ _ | exact Kd.V_nil _ _ _ _ _ | exact Kd.Q_nil _ _ _ _ _ | exact Kd.S_nil _ _ _ _ _⟩, ⟨by first | exact Kd.R_nil _ _ _ _ _ | exact Kd.N_nil _ _ _ _ _ | exact Kd.V_nil _ _ _ _ _ | exact Kd.Q_nil _ _ _ _ _ | exact Kd.S_nil _ _ _ _ _⟩, ⟨by (with_reducible repeat (first | refine blk_drewN ?_ _ | refine blk_drew ?_ | refine blk_alloc ?_ _)); exact BK240.out⟩, ⟨by (with_reducible repeat (first | refine blk_drewN ?_ _ | refine blk_drew ?_ | refine blk_alloc ?_ _)); exact BK242.out⟩, ⟨(q8f57_ HB.out GE240.out GE242.out)⟩⟩
     case round =>
      clear H'
      try clear c1
      try clear c2
      try clear p2
      try clear q2
      try clear hx2
      try clear qi2
      try clear c3
      try clear c3b0
      try clear c3b1
      try clear c3b2
      try clear c6
      try clear c6b0
      try clear c6b1
      try clear p6
      try clear c10
      try clear c12
      try clear c12b0
      try clear c12b1
      try clear c13
      try clear hcz11_0
      try clear hcz11_1
      try clear hcz11_2
      try clear hcz11_3
      try clear hcz11_4
      try clear hcz14_0
      try clear hcz14_1
      try clear hcz14_2
      try clear hcz14_3
      try clear hcz14_4
      try clear hcz5_0
      try clear hcz5_1
      try clear hcz5_2
      try clear hcz5_3
      try clear hcz5_4
      try clear hfz11_0
      try clear hfz11_1
      try clear hfz11_2
      try clear hfz11_3
      try clear hfz11_4
      try clear hfz14_0
      try clear hfz14_1
      try clear hfz14_2
      try clear hfz14_3
      try clear hfz14_4
      try clear hfz5_0
      try clear hfz5_1
      try clear hfz5_2
      try clear hfz5_3
      try clear hfz5_4
      try clear hx241_0
      try clear p2
      try clear p241
      try clear p6
      try clear q2
      try clear q241
      obtain ⟨x6_2, x243001_2, x243002_2, x243003_2, u243002, u243003, rfl, HA, HK2, HO_243002, HO_243003, BK240, BK242, HB⟩ := hrel
      cases gk with
      | zero => exact absurd HA.out (by simp [caravanlaw5_Make.l0])
      | succ k2 =>
       have H := HA.out
       clear HA
       simp only [caravanlaw5_Make.l0] at H
       have HC15 := Aside0.mk H
       clear H
       go_upto_region 7 with (fail)
       go_cut [32] (fun v32 wc => ∃ (kq : Nat) (x32_14 : Bool), v32 = .bool x32_14 ∧ Aside0 (caravanlaw5_Make.j2 kq l0 x6_2 x32_14 (wrap64 (1 + (Int.tmod (wrap64 (rd l0 0)) 4))) x243001_2 x243002_2 x243003_2 x243004_6 = some (r1, r2, r3, r4, r5)) ∧ Aside0 (kq ≤ k2) ∧ Aside0 (Kd.R k29 29 wc w.heap.size (fun _ => True) u243002 x243002_2) ∧ Aside0 (Kd.R Kd.string 9 wc w.heap.size (fun _ => True) u243003 x243003_2) ∧ Aside0 (wc.heap[gb240]? = some (.cells #[.int .i64 0, .string (⟨#[]⟩ : ByteArray), (.slice none 0 0), (.slice none 0 0), .int .i64 0] 26 (0, 0))) ∧ Aside0 (wc.heap[gb242]? = some (.cells #[.int .i64 (wrap64 (1 + (Int.tmod (wrap64 (rd l0 0)) 4))), .string x243001_2, u243002, u243003, .int .i64 x243004_6] 26 (0, 0))) ∧ Aside0 (Below w.heap.size w wc))
       case first =>
        have H := HC15.out
        clear HC15
        by_cases c16 : x6_2 < (l0.length : Int)
        ·rw [if_pos c16] at H
         have c16b0 : decide (x6_2 < (l0.length : Int)) = true := decide_eq_true c16
         clear c16
         (first | rw [c16b0] | (simp only [i64_w, i32_w]; rw [c16b0]) | skip)
         have H' := Aside0.mk H
         clear H
         go_wp2
         go_meet
         case rel => exact ⟨_, (decide (x6_2 < 9)), (by first | rfl | (simp; done) | (simp [*]; done)), H', ⟨by have := HJ6.out; have := HK2.out; first | omega | exact Nat.le_refl _⟩, ⟨by (with_reducible repeat (first | apply Kd.R_alloc | apply Kd.R_drewN | apply Kd.R_drew)); exact HO_243002.out⟩, ⟨by (with_reducible repeat (first | apply Kd.R_alloc | apply Kd.R_drewN | apply Kd.R_drew)); exact HO_243003.out⟩, ⟨by (with_reducible repeat (first | refine blk_drewN ?_ _ | refine blk_drew ?_ | refine blk_alloc ?_ _)); exact BK240.out⟩, ⟨by (with_reducible repeat (first | refine blk_drewN ?_ _ | refine blk_drew ?_ | refine blk_alloc ?_ _)); exact BK242.out⟩, ⟨(q8f57_ HB.out GE240.out GE242.out)⟩⟩
        ·rw [if_neg c16] at H
         have c16b0 : decide (x6_2 < (l0.length : Int)) = false := decide_eq_false c16
         clear c16
         (first | rw [c16b0] | (simp only [i64_w, i32_w]; rw [c16b0]) | skip)
         have H' := Aside0.mk H
         clear H
         go_wp2
         go_meet
         case rel => exact ⟨_, (false), (by first | rfl | (simp; done) | (simp [*]; done)), H', ⟨by have := HJ6.out; have := HK2.out; first | omega | exact Nat.le_refl _⟩, ⟨by (with_reducible repeat (first | apply Kd.R_alloc | apply Kd.R_drewN | apply Kd.R_drew)); exact HO_243002.out⟩, ⟨by (with_reducible repeat (first | apply Kd.R_alloc | apply Kd.R_drewN | apply Kd.R_drew)); exact HO_243003.out⟩, ⟨by (with_reducible repeat (first | refine blk_drewN ?_ _ | refine blk_drew ?_ | refine blk_alloc ?_ _)); exact BK240.out⟩, ⟨by (with_reducible repeat (first | refine blk_drewN ?_ _ | refine blk_drew ?_ | refine blk_alloc ?_ _)); exact BK242.out⟩, ⟨(q8f57_ HB.out GE240.out GE242.out)⟩⟩
       case rest =>
        clear HC15
        try clear c1
        try clear c2
        try clear p2
        try clear q2
        try clear hx2
        try clear qi2
        try clear c3
        try clear c3b0
        try clear c3b1
        try clear c3b2
        try clear c6
        try clear c6b0
        try clear c6b1
        try clear p6
        try clear c10
        try clear c12
        try clear c12b0
        try clear c12b1
        try clear c13
        try clear c16
        try clear c16b0
        try clear hcz11_0
        try clear hcz11_1
        try clear hcz11_2
        try clear hcz11_3
        try clear hcz11_4
        try clear hcz14_0
        try clear hcz14_1
        try clear hcz14_2
        try clear hcz14_3
        try clear hcz14_4
        try clear hcz5_0
        try clear hcz5_1
        try clear hcz5_2
        try clear hcz5_3
        try clear hcz5_4
        try clear hfz11_0
        try clear hfz11_1
        try clear hfz11_2
        try clear hfz11_3
        try clear hfz11_4
        try clear hfz14_0
        try clear hfz14_1
        try clear hfz14_2
        try clear hfz14_3
        try clear hfz14_4
        try clear hfz5_0
        try clear hfz5_1
        try clear hfz5_2
        try clear hfz5_3
        try clear hfz5_4
        try clear hx241_0
        try clear p2
        try clear p241
        try clear p6
        try clear q2
        try clear q241
        obtain ⟨kq, x32_14, rfl, HA, HJ14, HO_243002, HO_243003, BK240, BK242, HB⟩ := hcut
        cases kq with
        | zero => exact absurd HA.out (by simp [caravanlaw5_Make.j2])
        | succ kj14 =>
         have H := HA.out
         clear HA
         simp only [caravanlaw5_Make.j2] at H
         by_cases c17 : x32_14 = true
         ·subst c17
          have H1 : (if 0 ≤ x6_2 then (if x6_2 < (l0.length : Int) then ((some (([(97 + (Int.tmod (rd l0 x6_2) 5)) % 256] : List Int) : List Int)).bind fun y246 => ((caravanref1_Digits.f kj14 (Int.tmod (wrap64 (rd l0 x6_2)) 3)).bind fun t250 => (if (strOfNums y246).size + t250.size ≤ 9223372036854775807 then (if (wrap64 (1 + (Int.tmod (wrap64 (rd l0 0)) 4))) = 1 then (if x243001_2.size + ((strOfNums y246) ++ t250).size ≤ 9223372036854775807 then (caravanlaw5_Make.l0 kj14 l0 (wrap64 (x6_2 + 1)) (wrap64 (1 + (Int.tmod (wrap64 (rd l0 0)) 4))) (x243001_2 ++ ((strOfNums y246) ++ t250)) x243002_2 x243003_2 x243004_6) else (none)) else (if (wrap64 (1 + (Int.tmod (wrap64 (rd l0 0)) 4))) = 2 then ((caravanref1_Digits.f kj14 (wrap64 ((wrap64 (rd l0 x6_2)) - 100))).bind fun t252 => ((caravanref5_HSet.f kj14 x243002_2 ((strOfNums y246) ++ t250) t252).bind fun t253 => (caravanlaw5_Make.l0 kj14 l0 (wrap64 (x6_2 + 1)) (wrap64 (1 + (Int.tmod (wrap64 (rd l0 0)) 4))) x243001_2 t253 x243003_2 x243004_6))) else (if (wrap64 (1 + (Int.tmod (wrap64 (rd l0 0)) 4))) = 3 then (if x243003_2.length < 8796093022208 then (caravanlaw5_Make.l0 kj14 l0 (wrap64 (x6_2 + 1)) (wrap64 (1 + (Int.tmod (wrap64 (rd l0 0)) 4))) x243001_2 x243002_2 (x243003_2 ++ [(strOfNums y246) ++ t250]) x243004_6) else (none)) else ((caravanref5_SAdd.f kj14 x243003_2 ((strOfNums y246) ++ t250)).bind fun t259 => (caravanlaw5_Make.l0 kj14 l0 (wrap64 (x6_2 + 1)) (wrap64 (1 + (Int.tmod (wrap64 (rd l0 0)) 4))) x243001_2 x243002_2 t259 x243004_6))))) else (none)))) else (none)) else (none)) = some (r1, r2, r3, r4, r5) := by rw [if_pos rfl] at H; exact H
          clear H
          have H := H1
          clear H1
          by_cases c18 : 0 ≤ x6_2
          ·rw [if_pos c18] at H
           have c18b0 : decide (0 ≤ x6_2) = true := decide_eq_true c18
           clear c18
           by_cases c19 : x6_2 < (l0.length : Int)
           ·rw [if_pos c19] at H
            have c19b0 : decide (x6_2 < (l0.length : Int)) = true := decide_eq_true c19
            clear c19
            obtain ⟨y246, hy246⟩ : ∃ y_ : List Int, y_ = (([(97 + (Int.tmod (rd l0 x6_2) 5)) % 256] : List Int)) := ⟨_, rfl⟩
            replace H : ((caravanref1_Digits.f kj14 (Int.tmod (wrap64 (rd l0 x6_2)) 3)).bind fun t250 => (if (strOfNums y246).size + t250.size ≤ 9223372036854775807 then (if (wrap64 (1 + (Int.tmod (wrap64 (rd l0 0)) 4))) = 1 then (if x243001_2.size + ((strOfNums y246) ++ t250).size ≤ 9223372036854775807 then (caravanlaw5_Make.l0 kj14 l0 (wrap64 (x6_2 + 1)) (wrap64 (1 + (Int.tmod (wrap64 (rd l0 0)) 4))) (x243001_2 ++ ((strOfNums y246) ++ t250)) x243002_2 x243003_2 x243004_6) else (none)) else (if (wrap64 (1 + (Int.tmod (wrap64 (rd l0 0)) 4))) = 2 then ((caravanref1_Digits.f kj14 (wrap64 ((wrap64 (rd l0 x6_2)) - 100))).bind fun t252 => ((caravanref5_HSet.f kj14 x243002_2 ((strOfNums y246) ++ t250) t252).bind fun t253 => (caravanlaw5_Make.l0 kj14 l0 (wrap64 (x6_2 + 1)) (wrap64 (1 + (Int.tmod (wrap64 (rd l0 0)) 4))) x243001_2 t253 x243003_2 x243004_6))) else (if (wrap64 (1 + (Int.tmod (wrap64 (rd l0 0)) 4))) = 3 then (if x243003_2.length < 8796093022208 then (caravanlaw5_Make.l0 kj14 l0 (wrap64 (x6_2 + 1)) (wrap64 (1 + (Int.tmod (wrap64 (rd l0 0)) 4))) x243001_2 x243002_2 (x243003_2 ++ [(strOfNums y246) ++ t250]) x243004_6) else (none)) else ((caravanref5_SAdd.f kj14 x243003_2 ((strOfNums y246) ++ t250)).bind fun t259 => (caravanlaw5_Make.l0 kj14 l0 (wrap64 (x6_2 + 1)) (wrap64 (1 + (Int.tmod (wrap64 (rd l0 0)) 4))) x243001_2 x243002_2 t259 x243004_6))))) else (none))) = some (r1, r2, r3, r4, r5) := by first | (rw [hy246]; with_reducible exact H) | (have H2_ := (Option.bind_some _ _).symm.trans H; rw [hy246]; with_reducible exact H2_) | (have H2_ := (Option.bind_some _ _).symm.trans H; with_reducible exact H2_) | with_reducible exact H | (rw [hy246]; exact H) | exact H
            have Ny246 := Aside0.mk hy246
            clear hy246
            replace H := Option.bind_eq_some_iff.mp H
            obtain ⟨t250, A200, H⟩ := H
            replace H : (if (strOfNums y246).size + t250.size ≤ 9223372036854775807 then (if (wrap64 (1 + (Int.tmod (wrap64 (rd l0 0)) 4))) = 1 then (if x243001_2.size + ((strOfNums y246) ++ t250).size ≤ 9223372036854775807 then (caravanlaw5_Make.l0 kj14 l0 (wrap64 (x6_2 + 1)) (wrap64 (1 + (Int.tmod (wrap64 (rd l0 0)) 4))) (x243001_2 ++ ((strOfNums y246) ++ t250)) x243002_2 x243003_2 x243004_6) else (none)) else (if (wrap64 (1 + (Int.tmod (wrap64 (rd l0 0)) 4))) = 2 then ((caravanref1_Digits.f kj14 (wrap64 ((wrap64 (rd l0 x6_2)) - 100))).bind fun t252 => ((caravanref5_HSet.f kj14 x243002_2 ((strOfNums y246) ++ t250) t252).bind fun t253 => (caravanlaw5_Make.l0 kj14 l0 (wrap64 (x6_2 + 1)) (wrap64 (1 + (Int.tmod (wrap64 (rd l0 0)) 4))) x243001_2 t253 x243003_2 x243004_6))) else (if (wrap64 (1 + (Int.tmod (wrap64 (rd l0 0)) 4))) = 3 then (if x243003_2.length < 8796093022208 then (caravanlaw5_Make.l0 kj14 l0 (wrap64 (x6_2 + 1)) (wrap64 (1 + (Int.tmod (wrap64 (rd l0 0)) 4))) x243001_2 x243002_2 (x243003_2 ++ [(strOfNums y246) ++ t250]) x243004_6) else (none)) else ((caravanref5_SAdd.f kj14 x243003_2 ((strOfNums y246) ++ t250)).bind fun t259 => (caravanlaw5_Make.l0 kj14 l0 (wrap64 (x6_2 + 1)) (wrap64 (1 + (Int.tmod (wrap64 (rd l0 0)) 4))) x243001_2 x243002_2 t259 x243004_6))))) else (none)) = some (r1, r2, r3, r4, r5) := H
            have A20 := Aside0.mk A200
            clear A200
            by_cases c21 : (strOfNums y246).size + t250.size ≤ 9223372036854775807
            ·rw [if_pos c21] at H
             have c21b0 := eq_true c21
             have c21b1 : decide ((strOfNums y246).size + t250.size ≤ 9223372036854775807) = true := decide_eq_true c21
             try have c21b2 : (9223372036854775807 < (strOfNums y246).size + t250.size) = False := eq_false (Nat.not_lt.2 c21)
             by_cases c22 : (wrap64 (1 + (Int.tmod (wrap64 (rd l0 0)) 4))) = 1
             ·rw [if_pos c22] at H
              have c22b0 : ((wrap64 (1 + (Int.tmod (wrap64 (rd l0 0)) 4))) == 1) = true := beq_iff_eq.mpr c22
              have c22b1 : ((wrap64 (1 + (Int.tmod (wrap64 (rd l0 0)) 4))) != 1) = false := bne_eq_false_iff_eq.mpr c22
              clear c22
              by_cases c23 : x243001_2.size + ((strOfNums y246) ++ t250).size ≤ 9223372036854775807
              ·rw [if_pos c23] at H
               have c23b0 := eq_true c23
               have c23b1 : decide (x243001_2.size + ((strOfNums y246) ++ t250).size ≤ 9223372036854775807) = true := decide_eq_true c23
               try have c23b2 : (9223372036854775807 < x243001_2.size + ((strOfNums y246) ++ t250).size) = False := eq_false (Nat.not_lt.2 c23)
               try (have c23b3 := c23b2; simp only [ByteArray.size_append] at c23b3)
               have H' := Aside0.mk H
               clear H
               try go_wp2
               have n0_ := Aside0.mk (Kd.R_drew HO_243002.out)
               have n1_ := Aside0.mk (Kd.R_drew HO_243003.out)
               have n2_ := Aside0.mk (blk_drew BK240.out)
               have n3_ := Aside0.mk (blk_drew BK242.out)
               have n4_ := Aside0.mk (below_drew1 HB.out)
               clear HO_243002
               clear HO_243003
               clear BK240
               clear BK242
               clear HB
               have HO_243002 := n0_
               have HO_243003 := n1_
               have BK240 := n2_
               have BK242 := n3_
               have HB := n4_
               clear n0_ n1_ n2_ n3_ n4_
               have p245 : 0 ≤ (x6_2 : Int) := of_decide_eq_true (by first | (with_reducible assumption) | assumption)
               have q245 : x6_2 < (l0.length : Int) := of_decide_eq_true (by first | (with_reducible assumption) | assumption)
               obtain ⟨ad245, e245, hx245_0⟩ := Kd.at_int HR0.out x6_2 p245 q245
               have hw245_0 := hx245_0
               obtain rfl : ad241 = ad245 := (by injection e245)
               replace hx245_0 := (HB.out.cell (World.block_lt_of_cell? w _ hx245_0)).trans hx245_0
               replace p245 := eq_true p245
               replace q245 := eq_true q245
               have p249 : 0 ≤ (x6_2 : Int) := of_decide_eq_true (by first | (with_reducible assumption) | assumption)
               have q249 : x6_2 < (l0.length : Int) := of_decide_eq_true (by first | (with_reducible assumption) | assumption)
               obtain ⟨ad249, e249, hx249_0⟩ := Kd.at_int HR0.out x6_2 p249 q249
               have hw249_0 := hx249_0
               obtain rfl : ad241 = ad249 := (by injection e249)
               replace hx249_0 := (HB.out.cell (World.block_lt_of_cell? w _ hx249_0)).trans hx249_0
               replace p249 := eq_true p249
               replace q249 := eq_true q249
               refine start_ (n := 17) (S := fun w' => w'.cell? (ad241.add (x6_2).toNat) = some (.int .u8 (rd l0 x6_2)) ∧ w'.cell? (ad241.add (x6_2).toNat) = some (.int .u8 (rd l0 x6_2))) (ds := []) (ml_ 17 0) (by kernel_rfl) rfl rfl ⟨((HB.out.cell (World.block_lt_of_cell? w _ hw245_0)).trans hw245_0), ((HB.out.cell (World.block_lt_of_cell? w _ hw249_0)).trans hw249_0)⟩ (fun hHeld => ?_); refine with_tabW caravanlaw5_Make.tab9 caravanlaw5_Make.bits9 (fun HT_ HW_ => ?_)
               generalize wc.drew = w24 at HO_243002 HO_243003 BK240 BK242 HB hx245_0 hx249_0 hHeld ⊢
               refine pA_ 0 35 (ml_ 17 1) rfl rfl HT_.out ?_
               refine pA_ 1 36 (ml_ 17 3) rfl rfl HT_.out ?_
               refine pA_ 2 37 (ml_ 17 7) rfl rfl HT_.out ?_
               refine pA_ 8 43 (ml_ 17 263) rfl rfl HT_.out ?_
               refine pA_ 9 44 (ml_ 17 775) rfl rfl HT_.out ?_
               refine pA_ 10 45 (ml_ 17 1799) rfl rfl HT_.out ?_
               refine t2_ 3 38 (ml_ 17 1807) rfl rfl HT_.out HW_.out hHeld ?_
               refine pA_ 4 39 (ml_ 17 1823) rfl rfl HT_.out ?_
               refine pA_ 5 40 (ml_ 17 1855) rfl rfl HT_.out ?_
               refine t2_ 11 46 (ml_ 17 3903) rfl rfl HT_.out HW_.out hHeld ?_
               refine pA_ 12 47 (ml_ 17 7999) rfl rfl HT_.out ?_
               refine pA_ 13 48 (ml_ 17 16191) rfl rfl HT_.out ?_
               refine join_ (σ := Value) 2 (ml_ 17 32767) (fun s_ => [(41, s_), (42, .string (strOfNums y246)), (49, .string t250)]) (fun s_ w' => (w'.cell? (ad241.add (x6_2).toNat) = some (.int .u8 (rd l0 x6_2)) ∧ w'.cell? (ad241.add (x6_2).toNat) = some (.int .u8 (rd l0 x6_2))) ∧ (Kd.R (Kd.int .u8) 5 w' w.heap.size (fun _ => True) s_ y246) ∧ (Kd.R k29 29 w' w.heap.size (fun _ => True) u243002 x243002_2) ∧ (Kd.R Kd.string 9 w' w.heap.size (fun _ => True) u243003 x243003_2) ∧ (w'.heap[gb240]? = some (.cells #[.int .i64 0, .string (⟨#[]⟩ : ByteArray), .slice none 0 0, .slice none 0 0, .int .i64 0] 26 (0, 0))) ∧ (w'.heap[gb242]? = some (.cells #[.int .i64 (wrap64 (1 + (Int.tmod (wrap64 (rd l0 0)) 4))), .string x243001_2, u243002, u243003, .int .i64 x243004_6] 26 (0, 0))) ∧ (Below w.heap.size w w')) ?_ ?_
               rotate_left
               ·intro hCont
                refine two_ (i := 6) (j := 14) (Ni := some 41) (Nj := some 49) (ml_ 17 16255) (ml_ 17 32575) rfl rfl rfl rfl (two_of HT_.out (by kernel_rfl)) (by decide) (by decide) (fun K hK => ?_) (fun K hK => ?_)
                ·skip
                 refine Kd.R_lit_step (Kd.int .u8) _ 5 ?hg (N := 41) ?hd (xs := ([(97 + (Int.tmod (rd l0 x6_2) 5)) % 256] : List Int)) (inner := [.int .u8 ((97 + (Int.tmod (rd l0 x6_2) 5)) % 256)]) (ok := fun _ => True) (okp := fun _ => True) ?hr ?hp (fun _ hk => hk) trivial (Below.refl _ _) (Nat.le_refl _) (by simp) ?_; (case hd => rfl); (case hg => rfl); (case hr => first | (go_simp; done) | (go_simp; rfl)); (case hp => exact (Reps.one (show Kd.M (Kd.int .u8) _ _ _ ((97 + (Int.tmod (rd l0 x6_2) 5)) % 256) [.int .u8 ((97 + (Int.tmod (rd l0 x6_2) 5)) % 256)] from rfl) (Reps.none _ _)))
                 intro v247 w25 ho26 hb hg_ hnew_
                 clear hg_ hnew_
                 (first | rw [← Ny246.out] at ho26 | (simp only [Int.reduceToNat] at ho26; rw [← Ny246.out] at ho26))
                 have n0_ := Aside0.mk (Kd.R_below (q8524_ HO_243002.out) hb)
                 have n1_ := Aside0.mk (Kd.R_below (q8524_ HO_243003.out) hb)
                 have n2_ := Aside0.mk (Kd.R_lower ho26 (below_size (q8f57_ HB.out GE240.out GE242.out)))
                 have n3_ := Aside0.mk (blk_below (g := gb240) (o := .cells #[.int .i64 0, .string (⟨#[]⟩ : ByteArray), .slice none 0 0, .slice none 0 0, .int .i64 0] 26 (0, 0)) (q1466_ BK240.out) hb)
                 have n4_ := Aside0.mk (blk_below (g := gb242) (o := .cells #[.int .i64 (wrap64 (1 + (Int.tmod (wrap64 (rd l0 0)) 4))), .string x243001_2, u243002, u243003, .int .i64 x243004_6] 26 (0, 0)) (q1466_ BK242.out) hb)
                 have n5_ := Aside0.mk (below_step (q8f57_ HB.out GE240.out GE242.out) hb)
                 clear HO_243002
                 clear HO_243003
                 clear BK240
                 clear BK242
                 clear HB
                 have HO_243002 := n0_
                 have HO_243003 := n1_
                 have HO248 := n2_
                 have BK240 := n3_
                 have BK242 := n4_
                 have HB := n5_
                 clear n0_ n1_ n2_ n3_ n4_ n5_
                 clear hb ho26
                 refine hK.out _ _ ⟨((HB.out.cell (World.block_lt_of_cell? w _ hw245_0)).trans hw245_0), ((HB.out.cell (World.block_lt_of_cell? w _ hw249_0)).trans hw249_0)⟩ (fun hHeld => ?_)
                 clear hK K
                 refine nA_ 41 ?_
                 refine two_ (i := 7) (j := 14) (Ni := some 42) (Nj := some 49) (ml_ 17 16383) (ml_ 17 32639) rfl rfl rfl rfl (two_of HT_.out (by kernel_rfl)) (by decide) (by decide) (fun K hK => ?_) (fun K hK => ?_)
                 ·skip
                  have hcv27 := own_string (P := Try.prog) Try.underlying40 Try.underlying5 Try.underlying9 (Kd.own_of_R HO248.out)
                  refine value_ (w1 := ?_) (v := ?_) (by rfl) rfl ?_ ?_
                  rotate_left 2
                  ·go_simp
                   constructor
                   ·rfl
                   ·rfl
                  clear hcv27
                  refine hK.out _ _ ⟨((HB.out.cell (World.block_lt_of_cell? w _ hw245_0)).trans hw245_0), ((HB.out.cell (World.block_lt_of_cell? w _ hw249_0)).trans hw249_0)⟩ (fun hHeld => ?_)
                  clear hK K
                  refine nA_ 42 ?_
                  refine one_ (i := 14) (N := some 49) (ml_ 17 32767) rfl rfl (one_of HT_.out (by kernel_rfl)) (by decide) (fun K hK => ?_)
                  refine goes_ Try.func8 (by kernel_rfl) rfl #[.int .i64 (Int.tmod (wrap64 (rd l0 x6_2)) 3)] (by rfl) rfl rfl qM_ ?_
                  with_reducible refine (caravanref1_Digits.calls kj14 (Int.tmod (wrap64 (rd l0 x6_2)) 3) t250 _ A20.out).mono ?_
                  rintro e w28 ⟨rfl, hb⟩
                  refine ⟨_, rfl, ?_⟩
                  have n0_ := Aside0.mk (Kd.R_below (q8524_ HO_243002.out) hb)
                  have n1_ := Aside0.mk (Kd.R_below (q8524_ HO_243003.out) hb)
                  have n2_ := Aside0.mk (Kd.R_below (q8524_ HO248.out) hb)
                  have n3_ := Aside0.mk (blk_below (g := gb240) (o := .cells #[.int .i64 0, .string (⟨#[]⟩ : ByteArray), .slice none 0 0, .slice none 0 0, .int .i64 0] 26 (0, 0)) (q1466_ BK240.out) hb)
                  have n4_ := Aside0.mk (blk_below (g := gb242) (o := .cells #[.int .i64 (wrap64 (1 + (Int.tmod (wrap64 (rd l0 0)) 4))), .string x243001_2, u243002, u243003, .int .i64 x243004_6] 26 (0, 0)) (q1466_ BK242.out) hb)
                  have n5_ := Aside0.mk (below_step (q8f57_ HB.out GE240.out GE242.out) hb)
                  clear HO_243002
                  clear HO_243003
                  clear HO248
                  clear BK240
                  clear BK242
                  clear HB
                  have HO_243002 := n0_
                  have HO_243003 := n1_
                  have HO248 := n2_
                  have BK240 := n3_
                  have BK242 := n4_
                  have HB := n5_
                  clear n0_ n1_ n2_ n3_ n4_ n5_
                  (try clear hb)
                  (try clear hb2)
                  (try clear hk)
                  (try clear hi)
                  refine hK.out _ _ ⟨((HB.out.cell (World.block_lt_of_cell? w _ hw245_0)).trans hw245_0), ((HB.out.cell (World.block_lt_of_cell? w _ hw249_0)).trans hw249_0)⟩ (fun hHeld => ?_)
                  clear hK K
                  refine nA_ 49 ?_
                  exact norm_ (by simp only [putAll, Act.put, List.setIfInBounds_toArray, List.set_cons_zero, List.set_cons_succ]) (hCont (v247) _ ⟨hHeld, (q8524_ HO248.out), (q8524_ HO_243002.out), (q8524_ HO_243003.out), (q1466_ BK240.out), (q1466_ BK242.out), (q8f57_ HB.out GE240.out GE242.out)⟩)
                 ·skip
                  refine goes_ Try.func8 (by kernel_rfl) rfl #[.int .i64 (Int.tmod (wrap64 (rd l0 x6_2)) 3)] (by rfl) rfl rfl qM_ ?_
                  with_reducible refine (caravanref1_Digits.calls kj14 (Int.tmod (wrap64 (rd l0 x6_2)) 3) t250 _ A20.out).mono ?_
                  rintro e w27 ⟨rfl, hb⟩
                  refine ⟨_, rfl, ?_⟩
                  have n0_ := Aside0.mk (Kd.R_below (q8524_ HO_243002.out) hb)
                  have n1_ := Aside0.mk (Kd.R_below (q8524_ HO_243003.out) hb)
                  have n2_ := Aside0.mk (Kd.R_below (q8524_ HO248.out) hb)
                  have n3_ := Aside0.mk (blk_below (g := gb240) (o := .cells #[.int .i64 0, .string (⟨#[]⟩ : ByteArray), .slice none 0 0, .slice none 0 0, .int .i64 0] 26 (0, 0)) (q1466_ BK240.out) hb)
                  have n4_ := Aside0.mk (blk_below (g := gb242) (o := .cells #[.int .i64 (wrap64 (1 + (Int.tmod (wrap64 (rd l0 0)) 4))), .string x243001_2, u243002, u243003, .int .i64 x243004_6] 26 (0, 0)) (q1466_ BK242.out) hb)
                  have n5_ := Aside0.mk (below_step (q8f57_ HB.out GE240.out GE242.out) hb)
                  clear HO_243002
                  clear HO_243003
                  clear HO248
                  clear BK240
                  clear BK242
                  clear HB
                  have HO_243002 := n0_
                  have HO_243003 := n1_
                  have HO248 := n2_
                  have BK240 := n3_
                  have BK242 := n4_
                  have HB := n5_
                  clear n0_ n1_ n2_ n3_ n4_ n5_
                  (try clear hb)
                  (try clear hb2)
                  (try clear hk)
                  (try clear hi)
                  refine hK.out _ _ ⟨((HB.out.cell (World.block_lt_of_cell? w _ hw245_0)).trans hw245_0), ((HB.out.cell (World.block_lt_of_cell? w _ hw249_0)).trans hw249_0)⟩ (fun hHeld => ?_)
                  clear hK K
                  refine nA_ 49 ?_
                  refine one_ (i := 7) (N := some 42) (ml_ 17 32767) rfl rfl (one_of HT_.out (by kernel_rfl)) (by decide) (fun K hK => ?_)
                  have hcv28 := own_string (P := Try.prog) Try.underlying40 Try.underlying5 Try.underlying9 (Kd.own_of_R HO248.out)
                  refine value_ (w1 := ?_) (v := ?_) (by rfl) rfl ?_ ?_
                  rotate_left 2
                  ·go_simp
                   constructor
                   ·rfl
                   ·rfl
                  clear hcv28
                  refine hK.out _ _ ⟨((HB.out.cell (World.block_lt_of_cell? w _ hw245_0)).trans hw245_0), ((HB.out.cell (World.block_lt_of_cell? w _ hw249_0)).trans hw249_0)⟩ (fun hHeld => ?_)
                  clear hK K
                  refine nA_ 42 ?_
                  exact norm_ (by simp only [putAll, Act.put, List.setIfInBounds_toArray, List.set_cons_zero, List.set_cons_succ]) (hCont (v247) _ ⟨hHeld, (q8524_ HO248.out), (q8524_ HO_243002.out), (q8524_ HO_243003.out), (q1466_ BK240.out), (q1466_ BK242.out), (q8f57_ HB.out GE240.out GE242.out)⟩)
                ·skip
                 refine goes_ Try.func8 (by kernel_rfl) rfl #[.int .i64 (Int.tmod (wrap64 (rd l0 x6_2)) 3)] (by rfl) rfl rfl qM_ ?_
                 with_reducible refine (caravanref1_Digits.calls kj14 (Int.tmod (wrap64 (rd l0 x6_2)) 3) t250 _ A20.out).mono ?_
                 rintro e w25 ⟨rfl, hb⟩
                 refine ⟨_, rfl, ?_⟩
                 have n0_ := Aside0.mk (Kd.R_below (q8524_ HO_243002.out) hb)
                 have n1_ := Aside0.mk (Kd.R_below (q8524_ HO_243003.out) hb)
                 have n2_ := Aside0.mk (blk_below (g := gb240) (o := .cells #[.int .i64 0, .string (⟨#[]⟩ : ByteArray), .slice none 0 0, .slice none 0 0, .int .i64 0] 26 (0, 0)) (q1466_ BK240.out) hb)
                 have n3_ := Aside0.mk (blk_below (g := gb242) (o := .cells #[.int .i64 (wrap64 (1 + (Int.tmod (wrap64 (rd l0 0)) 4))), .string x243001_2, u243002, u243003, .int .i64 x243004_6] 26 (0, 0)) (q1466_ BK242.out) hb)
                 have n4_ := Aside0.mk (below_step (q8f57_ HB.out GE240.out GE242.out) hb)
                 clear HO_243002
                 clear HO_243003
                 clear BK240
                 clear BK242
                 clear HB
                 have HO_243002 := n0_
                 have HO_243003 := n1_
                 have BK240 := n2_
                 have BK242 := n3_
                 have HB := n4_
                 clear n0_ n1_ n2_ n3_ n4_
                 (try clear hb)
                 (try clear hb2)
                 (try clear hk)
                 (try clear hi)
                 refine hK.out _ _ ⟨((HB.out.cell (World.block_lt_of_cell? w _ hw245_0)).trans hw245_0), ((HB.out.cell (World.block_lt_of_cell? w _ hw249_0)).trans hw249_0)⟩ (fun hHeld => ?_)
                 clear hK K
                 refine nA_ 49 ?_
                 refine one_ (i := 6) (N := some 41) (ml_ 17 32639) rfl rfl (one_of HT_.out (by kernel_rfl)) (by decide) (fun K hK => ?_)
                 refine Kd.R_lit_step (Kd.int .u8) _ 5 ?hg (N := 41) ?hd (xs := ([(97 + (Int.tmod (rd l0 x6_2) 5)) % 256] : List Int)) (inner := [.int .u8 ((97 + (Int.tmod (rd l0 x6_2) 5)) % 256)]) (ok := fun _ => True) (okp := fun _ => True) ?hr ?hp (fun _ hk => hk) trivial (Below.refl _ _) (Nat.le_refl _) (by simp) ?_; (case hd => rfl); (case hg => rfl); (case hr => first | (go_simp; done) | (go_simp; rfl)); (case hp => exact (Reps.one (show Kd.M (Kd.int .u8) _ _ _ ((97 + (Int.tmod (rd l0 x6_2) 5)) % 256) [.int .u8 ((97 + (Int.tmod (rd l0 x6_2) 5)) % 256)] from rfl) (Reps.none _ _)))
                 intro v247 w26 ho27 hb hg_ hnew_
                 clear hg_ hnew_
                 (first | rw [← Ny246.out] at ho27 | (simp only [Int.reduceToNat] at ho27; rw [← Ny246.out] at ho27))
                 have n0_ := Aside0.mk (Kd.R_below (q8524_ HO_243002.out) hb)
                 have n1_ := Aside0.mk (Kd.R_below (q8524_ HO_243003.out) hb)
                 have n2_ := Aside0.mk (Kd.R_lower ho27 (below_size (q8f57_ HB.out GE240.out GE242.out)))
                 have n3_ := Aside0.mk (blk_below (g := gb240) (o := .cells #[.int .i64 0, .string (⟨#[]⟩ : ByteArray), .slice none 0 0, .slice none 0 0, .int .i64 0] 26 (0, 0)) (q1466_ BK240.out) hb)
                 have n4_ := Aside0.mk (blk_below (g := gb242) (o := .cells #[.int .i64 (wrap64 (1 + (Int.tmod (wrap64 (rd l0 0)) 4))), .string x243001_2, u243002, u243003, .int .i64 x243004_6] 26 (0, 0)) (q1466_ BK242.out) hb)
                 have n5_ := Aside0.mk (below_step (q8f57_ HB.out GE240.out GE242.out) hb)
                 clear HO_243002
                 clear HO_243003
                 clear BK240
                 clear BK242
                 clear HB
                 have HO_243002 := n0_
                 have HO_243003 := n1_
                 have HO248 := n2_
                 have BK240 := n3_
                 have BK242 := n4_
                 have HB := n5_
                 clear n0_ n1_ n2_ n3_ n4_ n5_
                 clear hb ho27
                 refine hK.out _ _ ⟨((HB.out.cell (World.block_lt_of_cell? w _ hw245_0)).trans hw245_0), ((HB.out.cell (World.block_lt_of_cell? w _ hw249_0)).trans hw249_0)⟩ (fun hHeld => ?_)
                 clear hK K
                 refine nA_ 41 ?_
                 refine one_ (i := 7) (N := some 42) (ml_ 17 32767) rfl rfl (one_of HT_.out (by kernel_rfl)) (by decide) (fun K hK => ?_)
                 have hcv28 := own_string (P := Try.prog) Try.underlying40 Try.underlying5 Try.underlying9 (Kd.own_of_R HO248.out)
                 refine value_ (w1 := ?_) (v := ?_) (by rfl) rfl ?_ ?_
                 rotate_left 2
                 ·go_simp
                  constructor
                  ·rfl
                  ·rfl
                 clear hcv28
                 refine hK.out _ _ ⟨((HB.out.cell (World.block_lt_of_cell? w _ hw245_0)).trans hw245_0), ((HB.out.cell (World.block_lt_of_cell? w _ hw249_0)).trans hw249_0)⟩ (fun hHeld => ?_)
                 clear hK K
                 refine nA_ 42 ?_
                 exact norm_ (by simp only [putAll, Act.put, List.setIfInBounds_toArray, List.set_cons_zero, List.set_cons_succ]) (hCont (v247) _ ⟨hHeld, (q8524_ HO248.out), (q8524_ HO_243002.out), (q8524_ HO_243003.out), (q1466_ BK240.out), (q1466_ BK242.out), (q8f57_ HB.out GE240.out GE242.out)⟩)
               rintro v247 w29 ⟨hS_, h0_, h1_, h2_, h3_, h4_, h5_⟩
               have n0_ : Aside0 (Kd.R (Kd.int .u8) 5 w29 w.heap.size (fun _ => True) v247 y246) := ⟨h0_⟩
               have n1_ : Aside0 (Kd.R k29 29 w29 w.heap.size (fun _ => True) u243002 x243002_2) := ⟨h1_⟩
               have n2_ : Aside0 (Kd.R Kd.string 9 w29 w.heap.size (fun _ => True) u243003 x243003_2) := ⟨h2_⟩
               have n3_ : Aside0 (w29.heap[gb240]? = some (.cells #[.int .i64 0, .string (⟨#[]⟩ : ByteArray), .slice none 0 0, .slice none 0 0, .int .i64 0] 26 (0, 0))) := ⟨h3_⟩
               have n4_ : Aside0 (w29.heap[gb242]? = some (.cells #[.int .i64 (wrap64 (1 + (Int.tmod (wrap64 (rd l0 0)) 4))), .string x243001_2, u243002, u243003, .int .i64 x243004_6] 26 (0, 0))) := ⟨h4_⟩
               have n5_ : Aside0 (Below w.heap.size w w29) := ⟨h5_⟩
               clear HO_243002
               clear HO_243003
               clear BK240
               clear BK242
               clear HB
               clear h0_ h1_ h2_ h3_ h4_ h5_
               have HO248 := n0_
               have HO_243002 := n1_
               have HO_243003 := n2_
               have BK240 := n3_
               have BK242 := n4_
               have HB := n5_
               clear n0_ n1_ n2_ n3_ n4_ n5_
               have hHeld : w29.cell? (ad241.add (x6_2).toNat) = some (.int .u8 (rd l0 x6_2)) ∧ w29.cell? (ad241.add (x6_2).toNat) = some (.int .u8 (rd l0 x6_2)) := hS_
               refine norm_ (a' := ?_) ?_ ?_
               rotate_left
               ·simp only [putAll, Act.put, List.setIfInBounds_toArray, List.set_cons_zero, List.set_cons_succ]
                rfl
               refine pA_ 15 50 (ml_ 17 65535) rfl rfl HT_.out ?_
               refine pA_ 16 7 (ml_ 17 131071) rfl rfl HT_.out ?_
               refine done_ (done_of HT_.out (by kernel_rfl)) ?_
               have hnb30 := NB242_240.out
               have hnc30 := NB240_242.out
               have hcz31_0 : w29.cell? ⟨gb242, 0, none⟩ = some (.int .i64 (wrap64 (1 + (Int.tmod (wrap64 (rd l0 0)) 4)))) := (blk_cell BK242.out 0).trans rfl
               have hcz31_1 : w29.cell? ⟨gb242, 1, none⟩ = some (.string x243001_2) := (blk_cell BK242.out 1).trans rfl
               have hcz31_2 : w29.cell? ⟨gb242, 2, none⟩ = some (u243002) := (blk_cell BK242.out 2).trans rfl
               have hcz31_3 : w29.cell? ⟨gb242, 3, none⟩ = some (u243003) := (blk_cell BK242.out 3).trans rfl
               have hcz31_4 : w29.cell? ⟨gb242, 4, none⟩ = some (.int .i64 x243004_6) := (blk_cell BK242.out 4).trans rfl
               have hfz31_0 := blk_frozen BK242.out 0
               have hfz31_1 := blk_frozen BK242.out 1
               have hfz31_2 := blk_frozen BK242.out 2
               have hfz31_3 := blk_frozen BK242.out 3
               have hfz31_4 := blk_frozen BK242.out 4
               try go_wp2
               go_roundg kj14
               case measure => have := HJ6.out; have := HK2.out; have := HJ14.out; omega
               case rel => exact ⟨(wrap64 (x6_2 + 1)), (x243001_2 ++ ((strOfNums y246) ++ t250)), (x243002_2), (x243003_2), (u243002), (u243003), (by first | rfl | (simp; done) | (simp [*]; done)), H', ⟨by have := HJ6.out; have := HK2.out; have := HJ14.out; omega⟩, ⟨by (with_reducible repeat (first | apply Kd.R_alloc | apply Kd.R_drewN | apply Kd.R_drew)); exact Kd.R_mono (Kd.R_far (p := ⟨gb242, 1, none⟩) (Kd.R_types HO_243002.out BK242.out (by decide)) (fun _ hk => hk.2) (.string (x243001_2 ++ ((strOfNums y246) ++ t250)))) (fun _ hk => trivial)⟩, ⟨by (with_reducible repeat (first | apply Kd.R_alloc | apply Kd.R_drewN | apply Kd.R_drew)); exact Kd.R_mono (Kd.R_far (p := ⟨gb242, 1, none⟩) (Kd.R_types HO_243003.out BK242.out (by decide)) (fun _ hk => hk.2) (.string (x243001_2 ++ ((strOfNums y246) ++ t250)))) (fun _ hk => trivial)⟩, ⟨by (with_reducible repeat (first | refine blk_drewN ?_ _ | refine blk_drew ?_ | refine blk_alloc ?_ _)); refine blk_far ?_ NB240_242.out _; (with_reducible repeat (first | refine blk_drewN ?_ _ | refine blk_drew ?_ | refine blk_alloc ?_ _)); exact BK240.out⟩, ⟨by (with_reducible repeat (first | refine blk_drewN ?_ _ | refine blk_drew ?_ | refine blk_alloc ?_ _)); refine blk_put (cs := #[.int .i64 (wrap64 (1 + (Int.tmod (wrap64 (rd l0 0)) 4))), .string x243001_2, u243002, u243003, .int .i64 x243004_6]) ?_ 1 _ rfl; (with_reducible repeat (first | refine blk_drewN ?_ _ | refine blk_drew ?_ | refine blk_alloc ?_ _)); exact BK242.out⟩, ⟨(q8f57_ HB.out GE240.out GE242.out)⟩⟩
              ·rw [if_neg c23] at H
               exact absurd H (by simp)
             ·rw [if_neg c22] at H
              have c22b0 : ((wrap64 (1 + (Int.tmod (wrap64 (rd l0 0)) 4))) == 1) = false := beq_eq_false_iff_ne.mpr c22
              have c22b1 : ((wrap64 (1 + (Int.tmod (wrap64 (rd l0 0)) 4))) != 1) = true := bne_iff_ne.mpr c22
              by_cases c32 : (wrap64 (1 + (Int.tmod (wrap64 (rd l0 0)) 4))) = 2
              ·rw [if_pos c32] at H
               have c32b0 : ((wrap64 (1 + (Int.tmod (wrap64 (rd l0 0)) 4))) == 2) = true := beq_iff_eq.mpr c32
               have c32b1 : ((wrap64 (1 + (Int.tmod (wrap64 (rd l0 0)) 4))) != 2) = false := bne_eq_false_iff_eq.mpr c32
               clear c32
               replace H := Option.bind_eq_some_iff.mp H
               obtain ⟨t252, A330, H⟩ := H
               replace H : ((caravanref5_HSet.f kj14 x243002_2 ((strOfNums y246) ++ t250) t252).bind fun t253 => (caravanlaw5_Make.l0 kj14 l0 (wrap64 (x6_2 + 1)) (wrap64 (1 + (Int.tmod (wrap64 (rd l0 0)) 4))) x243001_2 t253 x243003_2 x243004_6)) = some (r1, r2, r3, r4, r5) := H
               have A33 := Aside0.mk A330
               clear A330
               replace H := Option.bind_eq_some_iff.mp H
               obtain ⟨t253, A340, H⟩ := H
               replace H : (caravanlaw5_Make.l0 kj14 l0 (wrap64 (x6_2 + 1)) (wrap64 (1 + (Int.tmod (wrap64 (rd l0 0)) 4))) x243001_2 t253 x243003_2 x243004_6) = some (r1, r2, r3, r4, r5) := H
               have A34 := Aside0.mk A340
               clear A340
               have H' := Aside0.mk H
               clear H
               try go_wp2
               have n0_ := Aside0.mk (Kd.R_drew HO_243002.out)
               have n1_ := Aside0.mk (Kd.R_drew HO_243003.out)
               have n2_ := Aside0.mk (blk_drew BK240.out)
               have n3_ := Aside0.mk (blk_drew BK242.out)
               have n4_ := Aside0.mk (below_drew1 HB.out)
               clear HO_243002
               clear HO_243003
               clear BK240
               clear BK242
               clear HB
               have HO_243002 := n0_
               have HO_243003 := n1_
               have BK240 := n2_
               have BK242 := n3_
               have HB := n4_
               clear n0_ n1_ n2_ n3_ n4_
               have p245 : 0 ≤ (x6_2 : Int) := of_decide_eq_true (by first | (with_reducible assumption) | assumption)
               have q245 : x6_2 < (l0.length : Int) := of_decide_eq_true (by first | (with_reducible assumption) | assumption)
               obtain ⟨ad245, e245, hx245_0⟩ := Kd.at_int HR0.out x6_2 p245 q245
               have hw245_0 := hx245_0
               obtain rfl : ad241 = ad245 := (by injection e245)
               replace hx245_0 := (HB.out.cell (World.block_lt_of_cell? w _ hx245_0)).trans hx245_0
               replace p245 := eq_true p245
               replace q245 := eq_true q245
               have p249 : 0 ≤ (x6_2 : Int) := of_decide_eq_true (by first | (with_reducible assumption) | assumption)
               have q249 : x6_2 < (l0.length : Int) := of_decide_eq_true (by first | (with_reducible assumption) | assumption)
               obtain ⟨ad249, e249, hx249_0⟩ := Kd.at_int HR0.out x6_2 p249 q249
               have hw249_0 := hx249_0
               obtain rfl : ad241 = ad249 := (by injection e249)
               replace hx249_0 := (HB.out.cell (World.block_lt_of_cell? w _ hx249_0)).trans hx249_0
               replace p249 := eq_true p249
               replace q249 := eq_true q249
               refine start_ (n := 17) (S := fun w' => w'.cell? (ad241.add (x6_2).toNat) = some (.int .u8 (rd l0 x6_2)) ∧ w'.cell? (ad241.add (x6_2).toNat) = some (.int .u8 (rd l0 x6_2))) (ds := []) (ml_ 17 0) (by kernel_rfl) rfl rfl ⟨((HB.out.cell (World.block_lt_of_cell? w _ hw245_0)).trans hw245_0), ((HB.out.cell (World.block_lt_of_cell? w _ hw249_0)).trans hw249_0)⟩ (fun hHeld => ?_); refine with_tabW caravanlaw5_Make.tab9 caravanlaw5_Make.bits9 (fun HT_ HW_ => ?_)
               generalize wc.drew = w35 at HO_243002 HO_243003 BK240 BK242 HB hx245_0 hx249_0 hHeld ⊢
               refine pA_ 0 35 (ml_ 17 1) rfl rfl HT_.out ?_
               refine pA_ 1 36 (ml_ 17 3) rfl rfl HT_.out ?_
               refine pA_ 2 37 (ml_ 17 7) rfl rfl HT_.out ?_
               refine pA_ 8 43 (ml_ 17 263) rfl rfl HT_.out ?_
               refine pA_ 9 44 (ml_ 17 775) rfl rfl HT_.out ?_
               refine pA_ 10 45 (ml_ 17 1799) rfl rfl HT_.out ?_
               refine t2_ 3 38 (ml_ 17 1807) rfl rfl HT_.out HW_.out hHeld ?_
               refine pA_ 4 39 (ml_ 17 1823) rfl rfl HT_.out ?_
               refine pA_ 5 40 (ml_ 17 1855) rfl rfl HT_.out ?_
               refine t2_ 11 46 (ml_ 17 3903) rfl rfl HT_.out HW_.out hHeld ?_
               refine pA_ 12 47 (ml_ 17 7999) rfl rfl HT_.out ?_
               refine pA_ 13 48 (ml_ 17 16191) rfl rfl HT_.out ?_
               refine join_ (σ := Value) 2 (ml_ 17 32767) (fun s_ => [(41, s_), (42, .string (strOfNums y246)), (49, .string t250)]) (fun s_ w' => (w'.cell? (ad241.add (x6_2).toNat) = some (.int .u8 (rd l0 x6_2)) ∧ w'.cell? (ad241.add (x6_2).toNat) = some (.int .u8 (rd l0 x6_2))) ∧ (Kd.R (Kd.int .u8) 5 w' w.heap.size (fun _ => True) s_ y246) ∧ (Kd.R k29 29 w' w.heap.size (fun _ => True) u243002 x243002_2) ∧ (Kd.R Kd.string 9 w' w.heap.size (fun _ => True) u243003 x243003_2) ∧ (w'.heap[gb240]? = some (.cells #[.int .i64 0, .string (⟨#[]⟩ : ByteArray), .slice none 0 0, .slice none 0 0, .int .i64 0] 26 (0, 0))) ∧ (w'.heap[gb242]? = some (.cells #[.int .i64 (wrap64 (1 + (Int.tmod (wrap64 (rd l0 0)) 4))), .string x243001_2, u243002, u243003, .int .i64 x243004_6] 26 (0, 0))) ∧ (Below w.heap.size w w')) ?_ ?_
               rotate_left
               ·intro hCont
                refine two_ (i := 6) (j := 14) (Ni := some 41) (Nj := some 49) (ml_ 17 16255) (ml_ 17 32575) rfl rfl rfl rfl (two_of HT_.out (by kernel_rfl)) (by decide) (by decide) (fun K hK => ?_) (fun K hK => ?_)
                ·skip
                 refine Kd.R_lit_step (Kd.int .u8) _ 5 ?hg (N := 41) ?hd (xs := ([(97 + (Int.tmod (rd l0 x6_2) 5)) % 256] : List Int)) (inner := [.int .u8 ((97 + (Int.tmod (rd l0 x6_2) 5)) % 256)]) (ok := fun _ => True) (okp := fun _ => True) ?hr ?hp (fun _ hk => hk) trivial (Below.refl _ _) (Nat.le_refl _) (by simp) ?_; (case hd => rfl); (case hg => rfl); (case hr => first | (go_simp; done) | (go_simp; rfl)); (case hp => exact (Reps.one (show Kd.M (Kd.int .u8) _ _ _ ((97 + (Int.tmod (rd l0 x6_2) 5)) % 256) [.int .u8 ((97 + (Int.tmod (rd l0 x6_2) 5)) % 256)] from rfl) (Reps.none _ _)))
                 intro v247 w36 ho37 hb hg_ hnew_
                 clear hg_ hnew_
                 (first | rw [← Ny246.out] at ho37 | (simp only [Int.reduceToNat] at ho37; rw [← Ny246.out] at ho37))
                 have n0_ := Aside0.mk (Kd.R_below (q8524_ HO_243002.out) hb)
                 have n1_ := Aside0.mk (Kd.R_below (q8524_ HO_243003.out) hb)
                 have n2_ := Aside0.mk (Kd.R_lower ho37 (below_size (q8f57_ HB.out GE240.out GE242.out)))
                 have n3_ := Aside0.mk (blk_below (g := gb240) (o := .cells #[.int .i64 0, .string (⟨#[]⟩ : ByteArray), .slice none 0 0, .slice none 0 0, .int .i64 0] 26 (0, 0)) (q1466_ BK240.out) hb)
                 have n4_ := Aside0.mk (blk_below (g := gb242) (o := .cells #[.int .i64 (wrap64 (1 + (Int.tmod (wrap64 (rd l0 0)) 4))), .string x243001_2, u243002, u243003, .int .i64 x243004_6] 26 (0, 0)) (q1466_ BK242.out) hb)
                 have n5_ := Aside0.mk (below_step (q8f57_ HB.out GE240.out GE242.out) hb)
                 clear HO_243002
                 clear HO_243003
                 clear BK240
                 clear BK242
                 clear HB
                 have HO_243002 := n0_
                 have HO_243003 := n1_
                 have HO248 := n2_
                 have BK240 := n3_
                 have BK242 := n4_
                 have HB := n5_
                 clear n0_ n1_ n2_ n3_ n4_ n5_
                 clear hb ho37
                 refine hK.out _ _ ⟨((HB.out.cell (World.block_lt_of_cell? w _ hw245_0)).trans hw245_0), ((HB.out.cell (World.block_lt_of_cell? w _ hw249_0)).trans hw249_0)⟩ (fun hHeld => ?_)
                 clear hK K
                 refine nA_ 41 ?_
                 refine two_ (i := 7) (j := 14) (Ni := some 42) (Nj := some 49) (ml_ 17 16383) (ml_ 17 32639) rfl rfl rfl rfl (two_of HT_.out (by kernel_rfl)) (by decide) (by decide) (fun K hK => ?_) (fun K hK => ?_)
                 ·skip
                  have hcv38 := own_string (P := Try.prog) Try.underlying40 Try.underlying5 Try.underlying9 (Kd.own_of_R HO248.out)
                  refine value_ (w1 := ?_) (v := ?_) (by rfl) rfl ?_ ?_
                  rotate_left 2
                  ·go_simp
                   constructor
                   ·rfl
                   ·rfl
                  clear hcv38
                  refine hK.out _ _ ⟨((HB.out.cell (World.block_lt_of_cell? w _ hw245_0)).trans hw245_0), ((HB.out.cell (World.block_lt_of_cell? w _ hw249_0)).trans hw249_0)⟩ (fun hHeld => ?_)
                  clear hK K
                  refine nA_ 42 ?_
                  refine one_ (i := 14) (N := some 49) (ml_ 17 32767) rfl rfl (one_of HT_.out (by kernel_rfl)) (by decide) (fun K hK => ?_)
                  refine goes_ Try.func8 (by kernel_rfl) rfl #[.int .i64 (Int.tmod (wrap64 (rd l0 x6_2)) 3)] (by rfl) rfl rfl qM_ ?_
                  with_reducible refine (caravanref1_Digits.calls kj14 (Int.tmod (wrap64 (rd l0 x6_2)) 3) t250 _ A20.out).mono ?_
                  rintro e w39 ⟨rfl, hb⟩
                  refine ⟨_, rfl, ?_⟩
                  have n0_ := Aside0.mk (Kd.R_below (q8524_ HO_243002.out) hb)
                  have n1_ := Aside0.mk (Kd.R_below (q8524_ HO_243003.out) hb)
                  have n2_ := Aside0.mk (Kd.R_below (q8524_ HO248.out) hb)
                  have n3_ := Aside0.mk (blk_below (g := gb240) (o := .cells #[.int .i64 0, .string (⟨#[]⟩ : ByteArray), .slice none 0 0, .slice none 0 0, .int .i64 0] 26 (0, 0)) (q1466_ BK240.out) hb)
                  have n4_ := Aside0.mk (blk_below (g := gb242) (o := .cells #[.int .i64 (wrap64 (1 + (Int.tmod (wrap64 (rd l0 0)) 4))), .string x243001_2, u243002, u243003, .int .i64 x243004_6] 26 (0, 0)) (q1466_ BK242.out) hb)
                  have n5_ := Aside0.mk (below_step (q8f57_ HB.out GE240.out GE242.out) hb)
                  clear HO_243002
                  clear HO_243003
                  clear HO248
                  clear BK240
                  clear BK242
                  clear HB
                  have HO_243002 := n0_
                  have HO_243003 := n1_
                  have HO248 := n2_
                  have BK240 := n3_
                  have BK242 := n4_
                  have HB := n5_
                  clear n0_ n1_ n2_ n3_ n4_ n5_
                  (try clear hb)
                  (try clear hb2)
                  (try clear hk)
                  (try clear hi)
                  refine hK.out _ _ ⟨((HB.out.cell (World.block_lt_of_cell? w _ hw245_0)).trans hw245_0), ((HB.out.cell (World.block_lt_of_cell? w _ hw249_0)).trans hw249_0)⟩ (fun hHeld => ?_)
                  clear hK K
                  refine nA_ 49 ?_
                  exact norm_ (by simp only [putAll, Act.put, List.setIfInBounds_toArray, List.set_cons_zero, List.set_cons_succ]) (hCont (v247) _ ⟨hHeld, (q8524_ HO248.out), (q8524_ HO_243002.out), (q8524_ HO_243003.out), (q1466_ BK240.out), (q1466_ BK242.out), (q8f57_ HB.out GE240.out GE242.out)⟩)
                 ·skip
                  refine goes_ Try.func8 (by kernel_rfl) rfl #[.int .i64 (Int.tmod (wrap64 (rd l0 x6_2)) 3)] (by rfl) rfl rfl qM_ ?_
                  with_reducible refine (caravanref1_Digits.calls kj14 (Int.tmod (wrap64 (rd l0 x6_2)) 3) t250 _ A20.out).mono ?_
                  rintro e w38 ⟨rfl, hb⟩
                  refine ⟨_, rfl, ?_⟩
                  have n0_ := Aside0.mk (Kd.R_below (q8524_ HO_243002.out) hb)
                  have n1_ := Aside0.mk (Kd.R_below (q8524_ HO_243003.out) hb)
                  have n2_ := Aside0.mk (Kd.R_below (q8524_ HO248.out) hb)
                  have n3_ := Aside0.mk (blk_below (g := gb240) (o := .cells #[.int .i64 0, .string (⟨#[]⟩ : ByteArray), .slice none 0 0, .slice none 0 0, .int .i64 0] 26 (0, 0)) (q1466_ BK240.out) hb)
                  have n4_ := Aside0.mk (blk_below (g := gb242) (o := .cells #[.int .i64 (wrap64 (1 + (Int.tmod (wrap64 (rd l0 0)) 4))), .string x243001_2, u243002, u243003, .int .i64 x243004_6] 26 (0, 0)) (q1466_ BK242.out) hb)
                  have n5_ := Aside0.mk (below_step (q8f57_ HB.out GE240.out GE242.out) hb)
                  clear HO_243002
                  clear HO_243003
                  clear HO248
                  clear BK240
                  clear BK242
                  clear HB
                  have HO_243002 := n0_
                  have HO_243003 := n1_
                  have HO248 := n2_
                  have BK240 := n3_
                  have BK242 := n4_
                  have HB := n5_
                  clear n0_ n1_ n2_ n3_ n4_ n5_
                  (try clear hb)
                  (try clear hb2)
                  (try clear hk)
                  (try clear hi)
                  refine hK.out _ _ ⟨((HB.out.cell (World.block_lt_of_cell? w _ hw245_0)).trans hw245_0), ((HB.out.cell (World.block_lt_of_cell? w _ hw249_0)).trans hw249_0)⟩ (fun hHeld => ?_)
                  clear hK K
                  refine nA_ 49 ?_
                  refine one_ (i := 7) (N := some 42) (ml_ 17 32767) rfl rfl (one_of HT_.out (by kernel_rfl)) (by decide) (fun K hK => ?_)
                  have hcv39 := own_string (P := Try.prog) Try.underlying40 Try.underlying5 Try.underlying9 (Kd.own_of_R HO248.out)
                  refine value_ (w1 := ?_) (v := ?_) (by rfl) rfl ?_ ?_
                  rotate_left 2
                  ·go_simp
                   constructor
                   ·rfl
                   ·rfl
                  clear hcv39
                  refine hK.out _ _ ⟨((HB.out.cell (World.block_lt_of_cell? w _ hw245_0)).trans hw245_0), ((HB.out.cell (World.block_lt_of_cell? w _ hw249_0)).trans hw249_0)⟩ (fun hHeld => ?_)
                  clear hK K
                  refine nA_ 42 ?_
                  exact norm_ (by simp only [putAll, Act.put, List.setIfInBounds_toArray, List.set_cons_zero, List.set_cons_succ]) (hCont (v247) _ ⟨hHeld, (q8524_ HO248.out), (q8524_ HO_243002.out), (q8524_ HO_243003.out), (q1466_ BK240.out), (q1466_ BK242.out), (q8f57_ HB.out GE240.out GE242.out)⟩)
                ·skip
                 refine goes_ Try.func8 (by kernel_rfl) rfl #[.int .i64 (Int.tmod (wrap64 (rd l0 x6_2)) 3)] (by rfl) rfl rfl qM_ ?_
                 with_reducible refine (caravanref1_Digits.calls kj14 (Int.tmod (wrap64 (rd l0 x6_2)) 3) t250 _ A20.out).mono ?_
                 rintro e w36 ⟨rfl, hb⟩
                 refine ⟨_, rfl, ?_⟩
                 have n0_ := Aside0.mk (Kd.R_below (q8524_ HO_243002.out) hb)
                 have n1_ := Aside0.mk (Kd.R_below (q8524_ HO_243003.out) hb)
                 have n2_ := Aside0.mk (blk_below (g := gb240) (o := .cells #[.int .i64 0, .string (⟨#[]⟩ : ByteArray), .slice none 0 0, .slice none 0 0, .int .i64 0] 26 (0, 0)) (q1466_ BK240.out) hb)
                 have n3_ := Aside0.mk (blk_below (g := gb242) (o := .cells #[.int .i64 (wrap64 (1 + (Int.tmod (wrap64 (rd l0 0)) 4))), .string x243001_2, u243002, u243003, .int .i64 x243004_6] 26 (0, 0)) (q1466_ BK242.out) hb)
                 have n4_ := Aside0.mk (below_step (q8f57_ HB.out GE240.out GE242.out) hb)
                 clear HO_243002
                 clear HO_243003
                 clear BK240
                 clear BK242
                 clear HB
                 have HO_243002 := n0_
                 have HO_243003 := n1_
                 have BK240 := n2_
                 have BK242 := n3_
                 have HB := n4_
                 clear n0_ n1_ n2_ n3_ n4_
                 (try clear hb)
                 (try clear hb2)
                 (try clear hk)
                 (try clear hi)
                 refine hK.out _ _ ⟨((HB.out.cell (World.block_lt_of_cell? w _ hw245_0)).trans hw245_0), ((HB.out.cell (World.block_lt_of_cell? w _ hw249_0)).trans hw249_0)⟩ (fun hHeld => ?_)
                 clear hK K
                 refine nA_ 49 ?_
                 refine one_ (i := 6) (N := some 41) (ml_ 17 32639) rfl rfl (one_of HT_.out (by kernel_rfl)) (by decide) (fun K hK => ?_)
                 refine Kd.R_lit_step (Kd.int .u8) _ 5 ?hg (N := 41) ?hd (xs := ([(97 + (Int.tmod (rd l0 x6_2) 5)) % 256] : List Int)) (inner := [.int .u8 ((97 + (Int.tmod (rd l0 x6_2) 5)) % 256)]) (ok := fun _ => True) (okp := fun _ => True) ?hr ?hp (fun _ hk => hk) trivial (Below.refl _ _) (Nat.le_refl _) (by simp) ?_; (case hd => rfl); (case hg => rfl); (case hr => first | (go_simp; done) | (go_simp; rfl)); (case hp => exact (Reps.one (show Kd.M (Kd.int .u8) _ _ _ ((97 + (Int.tmod (rd l0 x6_2) 5)) % 256) [.int .u8 ((97 + (Int.tmod (rd l0 x6_2) 5)) % 256)] from rfl) (Reps.none _ _)))
                 intro v247 w37 ho38 hb hg_ hnew_
                 clear hg_ hnew_
                 (first | rw [← Ny246.out] at ho38 | (simp only [Int.reduceToNat] at ho38; rw [← Ny246.out] at ho38))
                 have n0_ := Aside0.mk (Kd.R_below (q8524_ HO_243002.out) hb)
                 have n1_ := Aside0.mk (Kd.R_below (q8524_ HO_243003.out) hb)
                 have n2_ := Aside0.mk (Kd.R_lower ho38 (below_size (q8f57_ HB.out GE240.out GE242.out)))
                 have n3_ := Aside0.mk (blk_below (g := gb240) (o := .cells #[.int .i64 0, .string (⟨#[]⟩ : ByteArray), .slice none 0 0, .slice none 0 0, .int .i64 0] 26 (0, 0)) (q1466_ BK240.out) hb)
                 have n4_ := Aside0.mk (blk_below (g := gb242) (o := .cells #[.int .i64 (wrap64 (1 + (Int.tmod (wrap64 (rd l0 0)) 4))), .string x243001_2, u243002, u243003, .int .i64 x243004_6] 26 (0, 0)) (q1466_ BK242.out) hb)
                 have n5_ := Aside0.mk (below_step (q8f57_ HB.out GE240.out GE242.out) hb)
                 clear HO_243002
                 clear HO_243003
                 clear BK240
                 clear BK242
                 clear HB
                 have HO_243002 := n0_
                 have HO_243003 := n1_
                 have HO248 := n2_
                 have BK240 := n3_
                 have BK242 := n4_
                 have HB := n5_
                 clear n0_ n1_ n2_ n3_ n4_ n5_
                 clear hb ho38
                 refine hK.out _ _ ⟨((HB.out.cell (World.block_lt_of_cell? w _ hw245_0)).trans hw245_0), ((HB.out.cell (World.block_lt_of_cell? w _ hw249_0)).trans hw249_0)⟩ (fun hHeld => ?_)
                 clear hK K
                 refine nA_ 41 ?_
                 refine one_ (i := 7) (N := some 42) (ml_ 17 32767) rfl rfl (one_of HT_.out (by kernel_rfl)) (by decide) (fun K hK => ?_)
                 have hcv39 := own_string (P := Try.prog) Try.underlying40 Try.underlying5 Try.underlying9 (Kd.own_of_R HO248.out)
                 refine value_ (w1 := ?_) (v := ?_) (by rfl) rfl ?_ ?_
                 rotate_left 2
                 ·go_simp
                  constructor
                  ·rfl
                  ·rfl
                 clear hcv39
                 refine hK.out _ _ ⟨((HB.out.cell (World.block_lt_of_cell? w _ hw245_0)).trans hw245_0), ((HB.out.cell (World.block_lt_of_cell? w _ hw249_0)).trans hw249_0)⟩ (fun hHeld => ?_)
                 clear hK K
                 refine nA_ 42 ?_
                 exact norm_ (by simp only [putAll, Act.put, List.setIfInBounds_toArray, List.set_cons_zero, List.set_cons_succ]) (hCont (v247) _ ⟨hHeld, (q8524_ HO248.out), (q8524_ HO_243002.out), (q8524_ HO_243003.out), (q1466_ BK240.out), (q1466_ BK242.out), (q8f57_ HB.out GE240.out GE242.out)⟩)
               rintro v247 w40 ⟨hS_, h0_, h1_, h2_, h3_, h4_, h5_⟩
               have n0_ : Aside0 (Kd.R (Kd.int .u8) 5 w40 w.heap.size (fun _ => True) v247 y246) := ⟨h0_⟩
               have n1_ : Aside0 (Kd.R k29 29 w40 w.heap.size (fun _ => True) u243002 x243002_2) := ⟨h1_⟩
               have n2_ : Aside0 (Kd.R Kd.string 9 w40 w.heap.size (fun _ => True) u243003 x243003_2) := ⟨h2_⟩
               have n3_ : Aside0 (w40.heap[gb240]? = some (.cells #[.int .i64 0, .string (⟨#[]⟩ : ByteArray), .slice none 0 0, .slice none 0 0, .int .i64 0] 26 (0, 0))) := ⟨h3_⟩
               have n4_ : Aside0 (w40.heap[gb242]? = some (.cells #[.int .i64 (wrap64 (1 + (Int.tmod (wrap64 (rd l0 0)) 4))), .string x243001_2, u243002, u243003, .int .i64 x243004_6] 26 (0, 0))) := ⟨h4_⟩
               have n5_ : Aside0 (Below w.heap.size w w40) := ⟨h5_⟩
               clear HO_243002
               clear HO_243003
               clear BK240
               clear BK242
               clear HB
               clear h0_ h1_ h2_ h3_ h4_ h5_
               have HO248 := n0_
               have HO_243002 := n1_
               have HO_243003 := n2_
               have BK240 := n3_
               have BK242 := n4_
               have HB := n5_
               clear n0_ n1_ n2_ n3_ n4_ n5_
               have hHeld : w40.cell? (ad241.add (x6_2).toNat) = some (.int .u8 (rd l0 x6_2)) ∧ w40.cell? (ad241.add (x6_2).toNat) = some (.int .u8 (rd l0 x6_2)) := hS_
               refine norm_ (a' := ?_) ?_ ?_
               rotate_left
               ·simp only [putAll, Act.put, List.setIfInBounds_toArray, List.set_cons_zero, List.set_cons_succ]
                rfl
               refine pA_ 15 50 (ml_ 17 65535) rfl rfl HT_.out ?_
               refine pA_ 16 7 (ml_ 17 131071) rfl rfl HT_.out ?_
               refine done_ (done_of HT_.out (by kernel_rfl)) ?_
               have hnb41 := NB242_240.out
               have hnc41 := NB240_242.out
               have hcz42_0 : w40.cell? ⟨gb242, 0, none⟩ = some (.int .i64 (wrap64 (1 + (Int.tmod (wrap64 (rd l0 0)) 4)))) := (blk_cell BK242.out 0).trans rfl
               have hcz42_1 : w40.cell? ⟨gb242, 1, none⟩ = some (.string x243001_2) := (blk_cell BK242.out 1).trans rfl
               have hcz42_2 : w40.cell? ⟨gb242, 2, none⟩ = some (u243002) := (blk_cell BK242.out 2).trans rfl
               have hcz42_3 : w40.cell? ⟨gb242, 3, none⟩ = some (u243003) := (blk_cell BK242.out 3).trans rfl
               have hcz42_4 : w40.cell? ⟨gb242, 4, none⟩ = some (.int .i64 x243004_6) := (blk_cell BK242.out 4).trans rfl
               have hfz42_0 := blk_frozen BK242.out 0
               have hfz42_1 := blk_frozen BK242.out 1
               have hfz42_2 := blk_frozen BK242.out 2
               have hfz42_3 := blk_frozen BK242.out 3
               have hfz42_4 := blk_frozen BK242.out 4
               try go_wp2
               have n0_ := Aside0.mk (Kd.R_drew HO_243002.out)
               have n1_ := Aside0.mk (Kd.R_drew HO_243003.out)
               have n2_ := Aside0.mk (Kd.R_drew HO248.out)
               have n3_ := Aside0.mk (blk_drew BK240.out)
               have n4_ := Aside0.mk (blk_drew BK242.out)
               have n5_ := Aside0.mk (below_drew1 HB.out)
               clear HO_243002
               clear HO_243003
               clear HO248
               clear BK240
               clear BK242
               clear HB
               have HO_243002 := n0_
               have HO_243003 := n1_
               have HO248 := n2_
               have BK240 := n3_
               have BK242 := n4_
               have HB := n5_
               clear n0_ n1_ n2_ n3_ n4_ n5_
               have p251 : 0 ≤ (x6_2 : Int) := of_decide_eq_true (by first | (with_reducible assumption) | assumption)
               have q251 : x6_2 < (l0.length : Int) := of_decide_eq_true (by first | (with_reducible assumption) | assumption)
               obtain ⟨ad251, e251, hx251_0⟩ := Kd.at_int HR0.out x6_2 p251 q251
               have hw251_0 := hx251_0
               obtain rfl : ad241 = ad251 := (by injection e251)
               replace hx251_0 := (HB.out.cell (World.block_lt_of_cell? w _ hx251_0)).trans hx251_0
               replace p251 := eq_true p251
               replace q251 := eq_true q251
               refine start_ (n := 13) (S := fun w' => w'.cell? ⟨gb242, 0, none⟩ = some (.int .i64 (wrap64 (1 + (Int.tmod (wrap64 (rd l0 0)) 4)))) ∧ w'.cell? ⟨gb242, 1, none⟩ = some (.string x243001_2) ∧ w'.cell? ⟨gb242, 2, none⟩ = some (u243002) ∧ w'.cell? ⟨gb242, 3, none⟩ = some (u243003) ∧ w'.cell? ⟨gb242, 4, none⟩ = some (.int .i64 x243004_6) ∧ w'.cell? (ad241.add (x6_2).toNat) = some (.int .u8 (rd l0 x6_2))) (ds := [12]) (ml_ 13 0) (by kernel_rfl) rfl rfl ⟨(blk_cell BK242.out 0).trans rfl, (blk_cell BK242.out 1).trans rfl, (blk_cell BK242.out 2).trans rfl, (blk_cell BK242.out 3).trans rfl, (blk_cell BK242.out 4).trans rfl, ((HB.out.cell (World.block_lt_of_cell? w _ hw251_0)).trans hw251_0)⟩ (fun hHeld => ?_); refine with_tabW caravanlaw5_Make.tab15 caravanlaw5_Make.bits15 (fun HT_ HW_ => ?_)
               generalize w40.drew = w43 at HO_243002 HO_243003 HO248 BK240 BK242 HB hx251_0 hHeld ⊢
               refine pA_ 0 67 (ml_ 13 1) rfl rfl HT_.out ?_
               refine pA_ 2 69 (ml_ 13 5) rfl rfl HT_.out ?_
               refine pA_ 3 70 (ml_ 13 13) rfl rfl HT_.out ?_
               refine pA_ 4 71 (ml_ 13 29) rfl rfl HT_.out ?_
               refine pA_ 5 72 (ml_ 13 61) rfl rfl HT_.out ?_
               refine t6_ 1 68 (ml_ 13 63) rfl rfl HT_.out HW_.out hHeld ?_
               refine t6_ 6 73 (ml_ 13 127) rfl rfl HT_.out HW_.out hHeld ?_
               refine pA_ 7 74 (ml_ 13 255) rfl rfl HT_.out ?_
               refine pA_ 8 75 (ml_ 13 511) rfl rfl HT_.out ?_
               refine one_ (i := 9) (N := some 76) (ml_ 13 1023) rfl rfl (one_of HT_.out (by kernel_rfl)) (by decide) (fun K hK => ?_)
               refine goes_ Try.func8 (by kernel_rfl) rfl #[.int .i64 (wrap64 ((wrap64 (rd l0 x6_2)) - 100))] (by rfl) rfl rfl qM_ ?_
               with_reducible refine (caravanref1_Digits.calls kj14 (wrap64 ((wrap64 (rd l0 x6_2)) - 100)) t252 _ A33.out).mono ?_
               rintro e w44 ⟨rfl, hb⟩
               refine ⟨_, rfl, ?_⟩
               have n0_ := Aside0.mk (Kd.R_below (q8524_ HO_243002.out) hb)
               have n1_ := Aside0.mk (Kd.R_below (q8524_ HO_243003.out) hb)
               have n2_ := Aside0.mk (Kd.R_below (q8524_ HO248.out) hb)
               have n3_ := Aside0.mk (blk_below (g := gb240) (o := .cells #[.int .i64 0, .string (⟨#[]⟩ : ByteArray), .slice none 0 0, .slice none 0 0, .int .i64 0] 26 (0, 0)) (q1466_ BK240.out) hb)
               have n4_ := Aside0.mk (blk_below (g := gb242) (o := .cells #[.int .i64 (wrap64 (1 + (Int.tmod (wrap64 (rd l0 0)) 4))), .string x243001_2, u243002, u243003, .int .i64 x243004_6] 26 (0, 0)) (q1466_ BK242.out) hb)
               have n5_ := Aside0.mk (below_step (q8f57_ HB.out GE240.out GE242.out) hb)
               clear HO_243002
               clear HO_243003
               clear HO248
               clear BK240
               clear BK242
               clear HB
               have HO_243002 := n0_
               have HO_243003 := n1_
               have HO248 := n2_
               have BK240 := n3_
               have BK242 := n4_
               have HB := n5_
               clear n0_ n1_ n2_ n3_ n4_ n5_
               (try clear hb)
               (try clear hb2)
               (try clear hk)
               (try clear hi)
               obtain ⟨Ao45, co45, eo45⟩ := Kd.R_slice HO_243002.out
               (first | subst eo45 | (injection eo45 with f1_ f2_ f3_; have f4_ := f1_.symm; have f5_ := f3_.symm; clear f1_ f2_ f3_; subst f4_; subst f5_))
               refine hK.out _ _ ⟨(blk_cell BK242.out 0).trans rfl, (blk_cell BK242.out 1).trans rfl, (blk_cell BK242.out 2).trans rfl, (blk_cell BK242.out 3).trans rfl, (blk_cell BK242.out 4).trans rfl, ((HB.out.cell (World.block_lt_of_cell? w _ hw251_0)).trans hw251_0)⟩ (fun hHeld => ?_)
               clear hK K
               refine nA_ 76 ?_
               refine one_ (i := 10) (N := some 77) (ml_ 13 2047) rfl rfl (one_of HT_.out (by kernel_rfl)) (by decide) (fun K hK => ?_)
               refine goes_ Try.func30 (by kernel_rfl) rfl #[.slice Ao45 x243002_2.length co45, .string ((strOfNums y246) ++ t250), .string t252] (by rfl) rfl rfl qM_ ?_
               with_reducible refine (caravanref5_HSet.calls kj14 _ _ x243002_2 ((strOfNums y246) ++ t250) t252 t253 _ ?side1 ?side2 A34.out).mono ?_
               (case side1 => exact qC_ ((Kd.R_reads' HO_243002.out).2.2))
               (case side2 => exact (Kd.R_reads' HO_243002.out).2.1)
               rintro e w46 ⟨v254, rfl, ho0, hb⟩
               refine ⟨_, rfl, ?_⟩
               have n0_ := Aside0.mk (Kd.R_elder' (q8524_ HO_243002.out) (Kd.R_base ho0) hb)
               have n1_ := Aside0.mk (Kd.R_below (q8524_ HO_243003.out) hb)
               have n2_ := Aside0.mk (Kd.R_below (q8524_ HO248.out) hb)
               have n3_ := Aside0.mk (Kd.R_lower (Kd.R_new' ho0 (Kd.R_lt (q8524_ HO_243002.out))) (below_size (q8f57_ HB.out GE240.out GE242.out)))
               have n4_ := Aside0.mk (blk_below (g := gb240) (o := .cells #[.int .i64 0, .string (⟨#[]⟩ : ByteArray), .slice none 0 0, .slice none 0 0, .int .i64 0] 26 (0, 0)) (q1466_ BK240.out) hb)
               have n5_ := Aside0.mk (blk_below (g := gb242) (o := .cells #[.int .i64 (wrap64 (1 + (Int.tmod (wrap64 (rd l0 0)) 4))), .string x243001_2, .slice Ao45 x243002_2.length co45, u243003, .int .i64 x243004_6] 26 (0, 0)) (q1466_ BK242.out) hb)
               have n6_ := Aside0.mk (below_step (q8f57_ HB.out GE240.out GE242.out) hb)
               clear HO_243002
               clear HO_243003
               clear HO248
               clear BK240
               clear BK242
               clear HB
               have HO_243002 := n0_
               have HO_243003 := n1_
               have HO248 := n2_
               have HO255 := n3_
               have BK240 := n4_
               have BK242 := n5_
               have HB := n6_
               clear n0_ n1_ n2_ n3_ n4_ n5_ n6_
               (try clear hb)
               (try clear hb2)
               (try clear hk)
               (try clear hi)
               (try clear ho0)
               obtain ⟨Ao47, co47, eo47⟩ := Kd.R_slice HO255.out
               (first | subst eo47 | (injection eo47 with f1_ f2_ f3_; have f4_ := f1_.symm; have f5_ := f3_.symm; clear f1_ f2_ f3_; subst f4_; subst f5_))
               refine hK.out _ _ ⟨(blk_cell BK242.out 0).trans rfl, (blk_cell BK242.out 1).trans rfl, (blk_cell BK242.out 2).trans rfl, (blk_cell BK242.out 3).trans rfl, (blk_cell BK242.out 4).trans rfl, ((HB.out.cell (World.block_lt_of_cell? w _ hw251_0)).trans hw251_0)⟩ (fun hHeld => ?_)
               clear hK K
               refine nA_ 77 ?_
               refine pA_ 11 78 (ml_ 13 4095) rfl rfl HT_.out ?_
               refine last_ (i := 12) (N := none) (ml_ 13 8191) rfl rfl (one_of HT_.out (by kernel_rfl)) (by decide) (fun K hK => ?_)
               have hs48 : w46.cell? ⟨gb242, 2, none⟩ = some (.slice Ao45 x243002_2.length co45) := (blk_cell BK242.out 2).trans rfl
               have hfs48 := blk_frozen BK242.out 2
               have hns48_0 := NB240_242.out
               have hms48_0 := NB242_240.out
               refine skip_ (w1 := ?_) (by rfl) rfl ?_ ?_
               rotate_left
               ·go_simp
                rfl
               refine hK.out _ _ ?_
               clear hK K
               refine done_ (done_of HT_.out (by kernel_rfl)) ?_
               try go_wp2
               go_roundg kj14
               case measure => have := HJ6.out; have := HK2.out; have := HJ14.out; omega
               case rel => exact ⟨(wrap64 (x6_2 + 1)), (x243001_2), (t253), (x243003_2), (.slice Ao47 t253.length co47), (u243003), (by first | rfl | (simp; done) | (simp [*]; done)), H', ⟨by have := HJ6.out; have := HK2.out; have := HJ14.out; omega⟩, ⟨by (with_reducible repeat (first | apply Kd.R_alloc | apply Kd.R_drewN | apply Kd.R_drew)); exact Kd.R_mono (Kd.R_far (p := ⟨gb242, 2, none⟩) (Kd.R_types HO255.out BK242.out (by decide)) (fun _ hk => hk.2) (.slice Ao47 t253.length co47)) (fun _ hk => trivial)⟩, ⟨by (with_reducible repeat (first | apply Kd.R_alloc | apply Kd.R_drewN | apply Kd.R_drew)); exact Kd.R_mono (Kd.R_far (p := ⟨gb242, 2, none⟩) (Kd.R_types HO_243003.out BK242.out (by decide)) (fun _ hk => hk.2) (.slice Ao47 t253.length co47)) (fun _ hk => trivial)⟩, ⟨by (with_reducible repeat (first | refine blk_drewN ?_ _ | refine blk_drew ?_ | refine blk_alloc ?_ _)); refine blk_far ?_ NB240_242.out _; (with_reducible repeat (first | refine blk_drewN ?_ _ | refine blk_drew ?_ | refine blk_alloc ?_ _)); exact BK240.out⟩, ⟨by (with_reducible repeat (first | refine blk_drewN ?_ _ | refine blk_drew ?_ | refine blk_alloc ?_ _)); refine blk_put (cs := #[.int .i64 (wrap64 (1 + (Int.tmod (wrap64 (rd l0 0)) 4))), .string x243001_2, .slice Ao45 x243002_2.length co45, u243003, .int .i64 x243004_6]) ?_ 2 _ rfl; (with_reducible repeat (first | refine blk_drewN ?_ _ | refine blk_drew ?_ | refine blk_alloc ?_ _)); exact BK242.out⟩, ⟨(q8f57_ HB.out GE240.out GE242.out)⟩⟩
              ·rw [if_neg c32] at H
               have c32b0 : ((wrap64 (1 + (Int.tmod (wrap64 (rd l0 0)) 4))) == 2) = false := beq_eq_false_iff_ne.mpr c32
               have c32b1 : ((wrap64 (1 + (Int.tmod (wrap64 (rd l0 0)) 4))) != 2) = true := bne_iff_ne.mpr c32
               by_cases c49 : (wrap64 (1 + (Int.tmod (wrap64 (rd l0 0)) 4))) = 3
               ·rw [if_pos c49] at H
                have c49b0 : ((wrap64 (1 + (Int.tmod (wrap64 (rd l0 0)) 4))) == 3) = true := beq_iff_eq.mpr c49
                have c49b1 : ((wrap64 (1 + (Int.tmod (wrap64 (rd l0 0)) 4))) != 3) = false := bne_eq_false_iff_eq.mpr c49
                clear c49
                by_cases c50 : x243003_2.length < 8796093022208
                ·rw [if_pos c50] at H
                 have LMc50 := Aside0.mk c50
                 clear c50
                 obtain ⟨y256, hy256⟩ : ∃ y_ : List ByteArray, y_ = (x243003_2 ++ [(strOfNums y246) ++ t250]) := ⟨_, rfl⟩
                 replace H : (caravanlaw5_Make.l0 kj14 l0 (wrap64 (x6_2 + 1)) (wrap64 (1 + (Int.tmod (wrap64 (rd l0 0)) 4))) x243001_2 x243002_2 y256 x243004_6) = some (r1, r2, r3, r4, r5) := by first | (rw [hy256]; with_reducible exact H) | (have H2_ := (Option.bind_some _ _).symm.trans H; rw [hy256]; with_reducible exact H2_) | (have H2_ := (Option.bind_some _ _).symm.trans H; with_reducible exact H2_) | with_reducible exact H | (rw [hy256]; exact H) | exact H
                 have Ny256 := Aside0.mk hy256
                 clear hy256
                 have H' := Aside0.mk H
                 clear H
                 try go_wp2
                 have n0_ := Aside0.mk (Kd.R_drew HO_243002.out)
                 have n1_ := Aside0.mk (Kd.R_drew HO_243003.out)
                 have n2_ := Aside0.mk (blk_drew BK240.out)
                 have n3_ := Aside0.mk (blk_drew BK242.out)
                 have n4_ := Aside0.mk (below_drew1 HB.out)
                 clear HO_243002
                 clear HO_243003
                 clear BK240
                 clear BK242
                 clear HB
                 have HO_243002 := n0_
                 have HO_243003 := n1_
                 have BK240 := n2_
                 have BK242 := n3_
                 have HB := n4_
                 clear n0_ n1_ n2_ n3_ n4_
                 have p245 : 0 ≤ (x6_2 : Int) := of_decide_eq_true (by first | (with_reducible assumption) | assumption)
                 have q245 : x6_2 < (l0.length : Int) := of_decide_eq_true (by first | (with_reducible assumption) | assumption)
                 obtain ⟨ad245, e245, hx245_0⟩ := Kd.at_int HR0.out x6_2 p245 q245
                 have hw245_0 := hx245_0
                 obtain rfl : ad241 = ad245 := (by injection e245)
                 replace hx245_0 := (HB.out.cell (World.block_lt_of_cell? w _ hx245_0)).trans hx245_0
                 replace p245 := eq_true p245
                 replace q245 := eq_true q245
                 have p249 : 0 ≤ (x6_2 : Int) := of_decide_eq_true (by first | (with_reducible assumption) | assumption)
                 have q249 : x6_2 < (l0.length : Int) := of_decide_eq_true (by first | (with_reducible assumption) | assumption)
                 obtain ⟨ad249, e249, hx249_0⟩ := Kd.at_int HR0.out x6_2 p249 q249
                 have hw249_0 := hx249_0
                 obtain rfl : ad241 = ad249 := (by injection e249)
                 replace hx249_0 := (HB.out.cell (World.block_lt_of_cell? w _ hx249_0)).trans hx249_0
                 replace p249 := eq_true p249
                 replace q249 := eq_true q249
                 refine start_ (n := 17) (S := fun w' => w'.cell? (ad241.add (x6_2).toNat) = some (.int .u8 (rd l0 x6_2)) ∧ w'.cell? (ad241.add (x6_2).toNat) = some (.int .u8 (rd l0 x6_2))) (ds := []) (ml_ 17 0) (by kernel_rfl) rfl rfl ⟨((HB.out.cell (World.block_lt_of_cell? w _ hw245_0)).trans hw245_0), ((HB.out.cell (World.block_lt_of_cell? w _ hw249_0)).trans hw249_0)⟩ (fun hHeld => ?_); refine with_tabW caravanlaw5_Make.tab9 caravanlaw5_Make.bits9 (fun HT_ HW_ => ?_)
                 generalize wc.drew = w51 at HO_243002 HO_243003 BK240 BK242 HB hx245_0 hx249_0 hHeld ⊢
                 refine pA_ 0 35 (ml_ 17 1) rfl rfl HT_.out ?_
                 refine pA_ 1 36 (ml_ 17 3) rfl rfl HT_.out ?_
                 refine pA_ 2 37 (ml_ 17 7) rfl rfl HT_.out ?_
                 refine pA_ 8 43 (ml_ 17 263) rfl rfl HT_.out ?_
                 refine pA_ 9 44 (ml_ 17 775) rfl rfl HT_.out ?_
                 refine pA_ 10 45 (ml_ 17 1799) rfl rfl HT_.out ?_
                 refine t2_ 3 38 (ml_ 17 1807) rfl rfl HT_.out HW_.out hHeld ?_
                 refine pA_ 4 39 (ml_ 17 1823) rfl rfl HT_.out ?_
                 refine pA_ 5 40 (ml_ 17 1855) rfl rfl HT_.out ?_
                 refine t2_ 11 46 (ml_ 17 3903) rfl rfl HT_.out HW_.out hHeld ?_
                 refine pA_ 12 47 (ml_ 17 7999) rfl rfl HT_.out ?_
                 refine pA_ 13 48 (ml_ 17 16191) rfl rfl HT_.out ?_
                 refine join_ (σ := Value) 2 (ml_ 17 32767) (fun s_ => [(41, s_), (42, .string (strOfNums y246)), (49, .string t250)]) (fun s_ w' => (w'.cell? (ad241.add (x6_2).toNat) = some (.int .u8 (rd l0 x6_2)) ∧ w'.cell? (ad241.add (x6_2).toNat) = some (.int .u8 (rd l0 x6_2))) ∧ (Kd.R (Kd.int .u8) 5 w' w.heap.size (fun _ => True) s_ y246) ∧ (Kd.R k29 29 w' w.heap.size (fun _ => True) u243002 x243002_2) ∧ (Kd.R Kd.string 9 w' w.heap.size (fun _ => True) u243003 x243003_2) ∧ (w'.heap[gb240]? = some (.cells #[.int .i64 0, .string (⟨#[]⟩ : ByteArray), .slice none 0 0, .slice none 0 0, .int .i64 0] 26 (0, 0))) ∧ (w'.heap[gb242]? = some (.cells #[.int .i64 (wrap64 (1 + (Int.tmod (wrap64 (rd l0 0)) 4))), .string x243001_2, u243002, u243003, .int .i64 x243004_6] 26 (0, 0))) ∧ (Below w.heap.size w w')) ?_ ?_
                 rotate_left
                 ·intro hCont
                  refine two_ (i := 6) (j := 14) (Ni := some 41) (Nj := some 49) (ml_ 17 16255) (ml_ 17 32575) rfl rfl rfl rfl (two_of HT_.out (by kernel_rfl)) (by decide) (by decide) (fun K hK => ?_) (fun K hK => ?_)
                  ·skip
                   refine Kd.R_lit_step (Kd.int .u8) _ 5 ?hg (N := 41) ?hd (xs := ([(97 + (Int.tmod (rd l0 x6_2) 5)) % 256] : List Int)) (inner := [.int .u8 ((97 + (Int.tmod (rd l0 x6_2) 5)) % 256)]) (ok := fun _ => True) (okp := fun _ => True) ?hr ?hp (fun _ hk => hk) trivial (Below.refl _ _) (Nat.le_refl _) (by simp) ?_; (case hd => rfl); (case hg => rfl); (case hr => first | (go_simp; done) | (go_simp; rfl)); (case hp => exact (Reps.one (show Kd.M (Kd.int .u8) _ _ _ ((97 + (Int.tmod (rd l0 x6_2) 5)) % 256) [.int .u8 ((97 + (Int.tmod (rd l0 x6_2) 5)) % 256)] from rfl) (Reps.none _ _)))
                   intro v247 w52 ho53 hb hg_ hnew_
                   clear hg_ hnew_
                   (first | rw [← Ny246.out] at ho53 | (simp only [Int.reduceToNat] at ho53; rw [← Ny246.out] at ho53))
                   have n0_ := Aside0.mk (Kd.R_below (q8524_ HO_243002.out) hb)
                   have n1_ := Aside0.mk (Kd.R_below (q8524_ HO_243003.out) hb)
                   have n2_ := Aside0.mk (Kd.R_lower ho53 (below_size (q8f57_ HB.out GE240.out GE242.out)))
                   have n3_ := Aside0.mk (blk_below (g := gb240) (o := .cells #[.int .i64 0, .string (⟨#[]⟩ : ByteArray), .slice none 0 0, .slice none 0 0, .int .i64 0] 26 (0, 0)) (q1466_ BK240.out) hb)
                   have n4_ := Aside0.mk (blk_below (g := gb242) (o := .cells #[.int .i64 (wrap64 (1 + (Int.tmod (wrap64 (rd l0 0)) 4))), .string x243001_2, u243002, u243003, .int .i64 x243004_6] 26 (0, 0)) (q1466_ BK242.out) hb)
                   have n5_ := Aside0.mk (below_step (q8f57_ HB.out GE240.out GE242.out) hb)
                   clear HO_243002
                   clear HO_243003
                   clear BK240
                   clear BK242
                   clear HB
                   have HO_243002 := n0_
                   have HO_243003 := n1_
                   have HO248 := n2_
                   have BK240 := n3_
                   have BK242 := n4_
                   have HB := n5_
                   clear n0_ n1_ n2_ n3_ n4_ n5_
                   clear hb ho53
                   refine hK.out _ _ ⟨((HB.out.cell (World.block_lt_of_cell? w _ hw245_0)).trans hw245_0), ((HB.out.cell (World.block_lt_of_cell? w _ hw249_0)).trans hw249_0)⟩ (fun hHeld => ?_)
                   clear hK K
                   refine nA_ 41 ?_
                   refine two_ (i := 7) (j := 14) (Ni := some 42) (Nj := some 49) (ml_ 17 16383) (ml_ 17 32639) rfl rfl rfl rfl (two_of HT_.out (by kernel_rfl)) (by decide) (by decide) (fun K hK => ?_) (fun K hK => ?_)
                   ·skip
                    have hcv54 := own_string (P := Try.prog) Try.underlying40 Try.underlying5 Try.underlying9 (Kd.own_of_R HO248.out)
                    refine value_ (w1 := ?_) (v := ?_) (by rfl) rfl ?_ ?_
                    rotate_left 2
                    ·go_simp
                     constructor
                     ·rfl
                     ·rfl
                    clear hcv54
                    refine hK.out _ _ ⟨((HB.out.cell (World.block_lt_of_cell? w _ hw245_0)).trans hw245_0), ((HB.out.cell (World.block_lt_of_cell? w _ hw249_0)).trans hw249_0)⟩ (fun hHeld => ?_)
                    clear hK K
                    refine nA_ 42 ?_
                    refine one_ (i := 14) (N := some 49) (ml_ 17 32767) rfl rfl (one_of HT_.out (by kernel_rfl)) (by decide) (fun K hK => ?_)
                    refine goes_ Try.func8 (by kernel_rfl) rfl #[.int .i64 (Int.tmod (wrap64 (rd l0 x6_2)) 3)] (by rfl) rfl rfl qM_ ?_
                    with_reducible refine (caravanref1_Digits.calls kj14 (Int.tmod (wrap64 (rd l0 x6_2)) 3) t250 _ A20.out).mono ?_
                    rintro e w55 ⟨rfl, hb⟩
                    refine ⟨_, rfl, ?_⟩
                    have n0_ := Aside0.mk (Kd.R_below (q8524_ HO_243002.out) hb)
                    have n1_ := Aside0.mk (Kd.R_below (q8524_ HO_243003.out) hb)
                    have n2_ := Aside0.mk (Kd.R_below (q8524_ HO248.out) hb)
                    have n3_ := Aside0.mk (blk_below (g := gb240) (o := .cells #[.int .i64 0, .string (⟨#[]⟩ : ByteArray), .slice none 0 0, .slice none 0 0, .int .i64 0] 26 (0, 0)) (q1466_ BK240.out) hb)
                    have n4_ := Aside0.mk (blk_below (g := gb242) (o := .cells #[.int .i64 (wrap64 (1 + (Int.tmod (wrap64 (rd l0 0)) 4))), .string x243001_2, u243002, u243003, .int .i64 x243004_6] 26 (0, 0)) (q1466_ BK242.out) hb)
                    have n5_ := Aside0.mk (below_step (q8f57_ HB.out GE240.out GE242.out) hb)
                    clear HO_243002
                    clear HO_243003
                    clear HO248
                    clear BK240
                    clear BK242
                    clear HB
                    have HO_243002 := n0_
                    have HO_243003 := n1_
                    have HO248 := n2_
                    have BK240 := n3_
                    have BK242 := n4_
                    have HB := n5_
                    clear n0_ n1_ n2_ n3_ n4_ n5_
                    (try clear hb)
                    (try clear hb2)
                    (try clear hk)
                    (try clear hi)
                    refine hK.out _ _ ⟨((HB.out.cell (World.block_lt_of_cell? w _ hw245_0)).trans hw245_0), ((HB.out.cell (World.block_lt_of_cell? w _ hw249_0)).trans hw249_0)⟩ (fun hHeld => ?_)
                    clear hK K
                    refine nA_ 49 ?_
                    exact norm_ (by simp only [putAll, Act.put, List.setIfInBounds_toArray, List.set_cons_zero, List.set_cons_succ]) (hCont (v247) _ ⟨hHeld, (q8524_ HO248.out), (q8524_ HO_243002.out), (q8524_ HO_243003.out), (q1466_ BK240.out), (q1466_ BK242.out), (q8f57_ HB.out GE240.out GE242.out)⟩)
                   ·skip
                    refine goes_ Try.func8 (by kernel_rfl) rfl #[.int .i64 (Int.tmod (wrap64 (rd l0 x6_2)) 3)] (by rfl) rfl rfl qM_ ?_
                    with_reducible refine (caravanref1_Digits.calls kj14 (Int.tmod (wrap64 (rd l0 x6_2)) 3) t250 _ A20.out).mono ?_
                    rintro e w54 ⟨rfl, hb⟩
                    refine ⟨_, rfl, ?_⟩
                    have n0_ := Aside0.mk (Kd.R_below (q8524_ HO_243002.out) hb)
                    have n1_ := Aside0.mk (Kd.R_below (q8524_ HO_243003.out) hb)
                    have n2_ := Aside0.mk (Kd.R_below (q8524_ HO248.out) hb)
                    have n3_ := Aside0.mk (blk_below (g := gb240) (o := .cells #[.int .i64 0, .string (⟨#[]⟩ : ByteArray), .slice none 0 0, .slice none 0 0, .int .i64 0] 26 (0, 0)) (q1466_ BK240.out) hb)
                    have n4_ := Aside0.mk (blk_below (g := gb242) (o := .cells #[.int .i64 (wrap64 (1 + (Int.tmod (wrap64 (rd l0 0)) 4))), .string x243001_2, u243002, u243003, .int .i64 x243004_6] 26 (0, 0)) (q1466_ BK242.out) hb)
                    have n5_ := Aside0.mk (below_step (q8f57_ HB.out GE240.out GE242.out) hb)
                    clear HO_243002
                    clear HO_243003
                    clear HO248
                    clear BK240
                    clear BK242
                    clear HB
                    have HO_243002 := n0_
                    have HO_243003 := n1_
                    have HO248 := n2_
                    have BK240 := n3_
                    have BK242 := n4_
                    have HB := n5_
                    clear n0_ n1_ n2_ n3_ n4_ n5_
                    (try clear hb)
                    (try clear hb2)
                    (try clear hk)
                    (try clear hi)
                    refine hK.out _ _ ⟨((HB.out.cell (World.block_lt_of_cell? w _ hw245_0)).trans hw245_0), ((HB.out.cell (World.block_lt_of_cell? w _ hw249_0)).trans hw249_0)⟩ (fun hHeld => ?_)
                    clear hK K
                    refine nA_ 49 ?_
                    refine one_ (i := 7) (N := some 42) (ml_ 17 32767) rfl rfl (one_of HT_.out (by kernel_rfl)) (by decide) (fun K hK => ?_)
                    have hcv55 := own_string (P := Try.prog) Try.underlying40 Try.underlying5 Try.underlying9 (Kd.own_of_R HO248.out)
                    refine value_ (w1 := ?_) (v := ?_) (by rfl) rfl ?_ ?_
                    rotate_left 2
                    ·go_simp
                     constructor
                     ·rfl
                     ·rfl
                    clear hcv55
                    refine hK.out _ _ ⟨((HB.out.cell (World.block_lt_of_cell? w _ hw245_0)).trans hw245_0), ((HB.out.cell (World.block_lt_of_cell? w _ hw249_0)).trans hw249_0)⟩ (fun hHeld => ?_)
                    clear hK K
                    refine nA_ 42 ?_
                    exact norm_ (by simp only [putAll, Act.put, List.setIfInBounds_toArray, List.set_cons_zero, List.set_cons_succ]) (hCont (v247) _ ⟨hHeld, (q8524_ HO248.out), (q8524_ HO_243002.out), (q8524_ HO_243003.out), (q1466_ BK240.out), (q1466_ BK242.out), (q8f57_ HB.out GE240.out GE242.out)⟩)
                  ·skip
                   refine goes_ Try.func8 (by kernel_rfl) rfl #[.int .i64 (Int.tmod (wrap64 (rd l0 x6_2)) 3)] (by rfl) rfl rfl qM_ ?_
                   with_reducible refine (caravanref1_Digits.calls kj14 (Int.tmod (wrap64 (rd l0 x6_2)) 3) t250 _ A20.out).mono ?_
                   rintro e w52 ⟨rfl, hb⟩
                   refine ⟨_, rfl, ?_⟩
                   have n0_ := Aside0.mk (Kd.R_below (q8524_ HO_243002.out) hb)
                   have n1_ := Aside0.mk (Kd.R_below (q8524_ HO_243003.out) hb)
                   have n2_ := Aside0.mk (blk_below (g := gb240) (o := .cells #[.int .i64 0, .string (⟨#[]⟩ : ByteArray), .slice none 0 0, .slice none 0 0, .int .i64 0] 26 (0, 0)) (q1466_ BK240.out) hb)
                   have n3_ := Aside0.mk (blk_below (g := gb242) (o := .cells #[.int .i64 (wrap64 (1 + (Int.tmod (wrap64 (rd l0 0)) 4))), .string x243001_2, u243002, u243003, .int .i64 x243004_6] 26 (0, 0)) (q1466_ BK242.out) hb)
                   have n4_ := Aside0.mk (below_step (q8f57_ HB.out GE240.out GE242.out) hb)
                   clear HO_243002
                   clear HO_243003
                   clear BK240
                   clear BK242
                   clear HB
                   have HO_243002 := n0_
                   have HO_243003 := n1_
                   have BK240 := n2_
                   have BK242 := n3_
                   have HB := n4_
                   clear n0_ n1_ n2_ n3_ n4_
                   (try clear hb)
                   (try clear hb2)
                   (try clear hk)
                   (try clear hi)
                   refine hK.out _ _ ⟨((HB.out.cell (World.block_lt_of_cell? w _ hw245_0)).trans hw245_0), ((HB.out.cell (World.block_lt_of_cell? w _ hw249_0)).trans hw249_0)⟩ (fun hHeld => ?_)
                   clear hK K
                   refine nA_ 49 ?_
                   refine one_ (i := 6) (N := some 41) (ml_ 17 32639) rfl rfl (one_of HT_.out (by kernel_rfl)) (by decide) (fun K hK => ?_)
                   refine Kd.R_lit_step (Kd.int .u8) _ 5 ?hg (N := 41) ?hd (xs := ([(97 + (Int.tmod (rd l0 x6_2) 5)) % 256] : List Int)) (inner := [.int .u8 ((97 + (Int.tmod (rd l0 x6_2) 5)) % 256)]) (ok := fun _ => True) (okp := fun _ => True) ?hr ?hp (fun _ hk => hk) trivial (Below.refl _ _) (Nat.le_refl _) (by simp) ?_; (case hd => rfl); (case hg => rfl); (case hr => first | (go_simp; done) | (go_simp; rfl)); (case hp => exact (Reps.one (show Kd.M (Kd.int .u8) _ _ _ ((97 + (Int.tmod (rd l0 x6_2) 5)) % 256) [.int .u8 ((97 + (Int.tmod (rd l0 x6_2) 5)) % 256)] from rfl) (Reps.none _ _)))
                   intro v247 w53 ho54 hb hg_ hnew_
                   clear hg_ hnew_
                   (first | rw [← Ny246.out] at ho54 | (simp only [Int.reduceToNat] at ho54; rw [← Ny246.out] at ho54))
                   have n0_ := Aside0.mk (Kd.R_below (q8524_ HO_243002.out) hb)
                   have n1_ := Aside0.mk (Kd.R_below (q8524_ HO_243003.out) hb)
                   have n2_ := Aside0.mk (Kd.R_lower ho54 (below_size (q8f57_ HB.out GE240.out GE242.out)))
                   have n3_ := Aside0.mk (blk_below (g := gb240) (o := .cells #[.int .i64 0, .string (⟨#[]⟩ : ByteArray), .slice none 0 0, .slice none 0 0, .int .i64 0] 26 (0, 0)) (q1466_ BK240.out) hb)
                   have n4_ := Aside0.mk (blk_below (g := gb242) (o := .cells #[.int .i64 (wrap64 (1 + (Int.tmod (wrap64 (rd l0 0)) 4))), .string x243001_2, u243002, u243003, .int .i64 x243004_6] 26 (0, 0)) (q1466_ BK242.out) hb)
                   have n5_ := Aside0.mk (below_step (q8f57_ HB.out GE240.out GE242.out) hb)
                   clear HO_243002
                   clear HO_243003
                   clear BK240
                   clear BK242
                   clear HB
                   have HO_243002 := n0_
                   have HO_243003 := n1_
                   have HO248 := n2_
                   have BK240 := n3_
                   have BK242 := n4_
                   have HB := n5_
                   clear n0_ n1_ n2_ n3_ n4_ n5_
                   clear hb ho54
                   refine hK.out _ _ ⟨((HB.out.cell (World.block_lt_of_cell? w _ hw245_0)).trans hw245_0), ((HB.out.cell (World.block_lt_of_cell? w _ hw249_0)).trans hw249_0)⟩ (fun hHeld => ?_)
                   clear hK K
                   refine nA_ 41 ?_
                   refine one_ (i := 7) (N := some 42) (ml_ 17 32767) rfl rfl (one_of HT_.out (by kernel_rfl)) (by decide) (fun K hK => ?_)
                   have hcv55 := own_string (P := Try.prog) Try.underlying40 Try.underlying5 Try.underlying9 (Kd.own_of_R HO248.out)
                   refine value_ (w1 := ?_) (v := ?_) (by rfl) rfl ?_ ?_
                   rotate_left 2
                   ·go_simp
                    constructor
                    ·rfl
                    ·rfl
                   clear hcv55
                   refine hK.out _ _ ⟨((HB.out.cell (World.block_lt_of_cell? w _ hw245_0)).trans hw245_0), ((HB.out.cell (World.block_lt_of_cell? w _ hw249_0)).trans hw249_0)⟩ (fun hHeld => ?_)
                   clear hK K
                   refine nA_ 42 ?_
                   exact norm_ (by simp only [putAll, Act.put, List.setIfInBounds_toArray, List.set_cons_zero, List.set_cons_succ]) (hCont (v247) _ ⟨hHeld, (q8524_ HO248.out), (q8524_ HO_243002.out), (q8524_ HO_243003.out), (q1466_ BK240.out), (q1466_ BK242.out), (q8f57_ HB.out GE240.out GE242.out)⟩)
                 rintro v247 w56 ⟨hS_, h0_, h1_, h2_, h3_, h4_, h5_⟩
                 have n0_ : Aside0 (Kd.R (Kd.int .u8) 5 w56 w.heap.size (fun _ => True) v247 y246) := ⟨h0_⟩
                 have n1_ : Aside0 (Kd.R k29 29 w56 w.heap.size (fun _ => True) u243002 x243002_2) := ⟨h1_⟩
                 have n2_ : Aside0 (Kd.R Kd.string 9 w56 w.heap.size (fun _ => True) u243003 x243003_2) := ⟨h2_⟩
                 have n3_ : Aside0 (w56.heap[gb240]? = some (.cells #[.int .i64 0, .string (⟨#[]⟩ : ByteArray), .slice none 0 0, .slice none 0 0, .int .i64 0] 26 (0, 0))) := ⟨h3_⟩
                 have n4_ : Aside0 (w56.heap[gb242]? = some (.cells #[.int .i64 (wrap64 (1 + (Int.tmod (wrap64 (rd l0 0)) 4))), .string x243001_2, u243002, u243003, .int .i64 x243004_6] 26 (0, 0))) := ⟨h4_⟩
                 have n5_ : Aside0 (Below w.heap.size w w56) := ⟨h5_⟩
                 clear HO_243002
                 clear HO_243003
                 clear BK240
                 clear BK242
                 clear HB
                 clear h0_ h1_ h2_ h3_ h4_ h5_
                 have HO248 := n0_
                 have HO_243002 := n1_
                 have HO_243003 := n2_
                 have BK240 := n3_
                 have BK242 := n4_
                 have HB := n5_
                 clear n0_ n1_ n2_ n3_ n4_ n5_
                 have hHeld : w56.cell? (ad241.add (x6_2).toNat) = some (.int .u8 (rd l0 x6_2)) ∧ w56.cell? (ad241.add (x6_2).toNat) = some (.int .u8 (rd l0 x6_2)) := hS_
                 refine norm_ (a' := ?_) ?_ ?_
                 rotate_left
                 ·simp only [putAll, Act.put, List.setIfInBounds_toArray, List.set_cons_zero, List.set_cons_succ]
                  rfl
                 refine pA_ 15 50 (ml_ 17 65535) rfl rfl HT_.out ?_
                 refine pA_ 16 7 (ml_ 17 131071) rfl rfl HT_.out ?_
                 refine done_ (done_of HT_.out (by kernel_rfl)) ?_
                 have hnb57 := NB242_240.out
                 have hnc57 := NB240_242.out
                 have hcz58_0 : w56.cell? ⟨gb242, 0, none⟩ = some (.int .i64 (wrap64 (1 + (Int.tmod (wrap64 (rd l0 0)) 4)))) := (blk_cell BK242.out 0).trans rfl
                 have hcz58_1 : w56.cell? ⟨gb242, 1, none⟩ = some (.string x243001_2) := (blk_cell BK242.out 1).trans rfl
                 have hcz58_2 : w56.cell? ⟨gb242, 2, none⟩ = some (u243002) := (blk_cell BK242.out 2).trans rfl
                 have hcz58_3 : w56.cell? ⟨gb242, 3, none⟩ = some (u243003) := (blk_cell BK242.out 3).trans rfl
                 have hcz58_4 : w56.cell? ⟨gb242, 4, none⟩ = some (.int .i64 x243004_6) := (blk_cell BK242.out 4).trans rfl
                 have hfz58_0 := blk_frozen BK242.out 0
                 have hfz58_1 := blk_frozen BK242.out 1
                 have hfz58_2 := blk_frozen BK242.out 2
                 have hfz58_3 := blk_frozen BK242.out 3
                 have hfz58_4 := blk_frozen BK242.out 4
                 try go_wp2_with (first | ((with_reducible refine gate_builtin (b := .append) (xs := #[.tmp 82, .tmp 84]) rfl ?_); at_builtin; refine Kd.R_append Kd.string (w0 := w) w.heap.size rfl (.tmp 82) (.tmp 84) 24 9 (.string ⟨#[]⟩) 16 rfl Try.underlying24 info9 rfl (by decide) (by omega) u243003 x243003_2 ((strOfNums y246) ++ t250) [.string ((strOfNums y246) ++ t250)] (fun _ => True) (fun _ => False) rfl rfl ?aP (fun _ hk => hk.elim) ?aF ?aO ?aB ?aS ?aL ?_; (case aP => exact rfl); (case aB => exact (q8f57_ HB.out GE240.out GE242.out)); (case aF => exact (fun _ _ => trivial)); (case aO => exact (q8524_ HO_243003.out)); (case aS => exact (below_size (q8f57_ HB.out GE240.out GE242.out))); (case aL => have := LMc50.out; omega); intro v257 w59 ho hb hg hat; rw [← Ny256.out] at ho; have n0_ := Aside0.mk (Kd.R_over' (q8524_ HO_243002.out) (Kd.R_typed (q8524_ HO_243003.out)) (by decide) hg); have n1_ := Aside0.mk (blk_grown (g := gb240) (o := .cells #[.int .i64 0, .string (⟨#[]⟩ : ByteArray), .slice none 0 0, .slice none 0 0, .int .i64 0] 26 (0, 0)) (q1466_ BK240.out) hg (Kd.R_ne HO_243003.out BK240.out (by decide))); have n2_ := Aside0.mk (blk_grown (g := gb242) (o := .cells #[.int .i64 (wrap64 (1 + (Int.tmod (wrap64 (rd l0 0)) 4))), .string x243001_2, u243002, u243003, .int .i64 x243004_6] 26 (0, 0)) (q1466_ BK242.out) hg (Kd.R_ne HO_243003.out BK242.out (by decide))); have n3_ := Aside0.mk (Kd.R_over' (q8524_ HO248.out) (Kd.R_typed (q8524_ HO_243003.out)) (by decide) hg); have n4_ := Aside0.mk (hb); have n5_ := Aside0.mk (ho); clear HO_243002; clear BK240; clear BK242; clear HO248; clear HB; clear HO_243003; have HO_243002 := n0_; have BK240 := n1_; have BK242 := n2_; have HO248 := n3_; have HB := n4_; have HO258 := n5_; clear n0_ n1_ n2_ n3_ n4_ n5_; clear ho hb hg hat; obtain ⟨Ao60, co60, eo60⟩ := Kd.R_slice HO258.out; subst eo60; have hcz61_0 : w59.cell? ⟨gb242, 0, none⟩ = some (.int .i64 (wrap64 (1 + (Int.tmod (wrap64 (rd l0 0)) 4)))) := (blk_cell BK242.out 0).trans rfl; have hcz61_1 : w59.cell? ⟨gb242, 1, none⟩ = some (.string x243001_2) := (blk_cell BK242.out 1).trans rfl; have hcz61_2 : w59.cell? ⟨gb242, 2, none⟩ = some (u243002) := (blk_cell BK242.out 2).trans rfl; have hcz61_3 : w59.cell? ⟨gb242, 3, none⟩ = some (u243003) := (blk_cell BK242.out 3).trans rfl; have hcz61_4 : w59.cell? ⟨gb242, 4, none⟩ = some (.int .i64 x243004_6) := (blk_cell BK242.out 4).trans rfl; have hfz61_0 := blk_frozen BK242.out 0; have hfz61_1 := blk_frozen BK242.out 1; have hfz61_2 := blk_frozen BK242.out 2; have hfz61_3 := blk_frozen BK242.out 3; have hfz61_4 := blk_frozen BK242.out 4))
                 go_roundg kj14
                 case measure => have := HJ6.out; have := HK2.out; have := HJ14.out; omega
                 case rel => exact ⟨(wrap64 (x6_2 + 1)), (x243001_2), (x243002_2), (y256), (u243002), (.slice Ao60 y256.length co60), (by first | rfl | (simp; done) | (simp [*]; done)), H', ⟨by have := HJ6.out; have := HK2.out; have := HJ14.out; omega⟩, ⟨by (with_reducible repeat (first | apply Kd.R_alloc | apply Kd.R_drewN | apply Kd.R_drew)); exact Kd.R_mono (Kd.R_far (p := ⟨gb242, 3, none⟩) (Kd.R_types HO_243002.out BK242.out (by decide)) (fun _ hk => hk.2) (.slice Ao60 y256.length co60)) (fun _ hk => trivial)⟩, ⟨by (with_reducible repeat (first | apply Kd.R_alloc | apply Kd.R_drewN | apply Kd.R_drew)); exact Kd.R_mono (Kd.R_far (p := ⟨gb242, 3, none⟩) (Kd.R_types HO258.out BK242.out (by decide)) (fun _ hk => hk.2) (.slice Ao60 y256.length co60)) (fun _ hk => trivial)⟩, ⟨by (with_reducible repeat (first | refine blk_drewN ?_ _ | refine blk_drew ?_ | refine blk_alloc ?_ _)); refine blk_far ?_ NB240_242.out _; (with_reducible repeat (first | refine blk_drewN ?_ _ | refine blk_drew ?_ | refine blk_alloc ?_ _)); exact BK240.out⟩, ⟨by (with_reducible repeat (first | refine blk_drewN ?_ _ | refine blk_drew ?_ | refine blk_alloc ?_ _)); refine blk_put (cs := #[.int .i64 (wrap64 (1 + (Int.tmod (wrap64 (rd l0 0)) 4))), .string x243001_2, u243002, u243003, .int .i64 x243004_6]) ?_ 3 _ rfl; (with_reducible repeat (first | refine blk_drewN ?_ _ | refine blk_drew ?_ | refine blk_alloc ?_ _)); exact BK242.out⟩, ⟨(q8f57_ HB.out GE240.out GE242.out)⟩⟩
                ·rw [if_neg c50] at H
                 exact absurd H (by simp)
               ·rw [if_neg c49] at H
                have c49b0 : ((wrap64 (1 + (Int.tmod (wrap64 (rd l0 0)) 4))) == 3) = false := beq_eq_false_iff_ne.mpr c49
                have c49b1 : ((wrap64 (1 + (Int.tmod (wrap64 (rd l0 0)) 4))) != 3) = true := bne_iff_ne.mpr c49
                replace H := Option.bind_eq_some_iff.mp H
                obtain ⟨t259, A620, H⟩ := H
                replace H : (caravanlaw5_Make.l0 kj14 l0 (wrap64 (x6_2 + 1)) (wrap64 (1 + (Int.tmod (wrap64 (rd l0 0)) 4))) x243001_2 x243002_2 t259 x243004_6) = some (r1, r2, r3, r4, r5) := H
                have A62 := Aside0.mk A620
                clear A620
                have H' := Aside0.mk H
                clear H
                try go_wp2
                have n0_ := Aside0.mk (Kd.R_drew HO_243002.out)
                have n1_ := Aside0.mk (Kd.R_drew HO_243003.out)
                have n2_ := Aside0.mk (blk_drew BK240.out)
                have n3_ := Aside0.mk (blk_drew BK242.out)
                have n4_ := Aside0.mk (below_drew1 HB.out)
                clear HO_243002
                clear HO_243003
                clear BK240
                clear BK242
                clear HB
                have HO_243002 := n0_
                have HO_243003 := n1_
                have BK240 := n2_
                have BK242 := n3_
                have HB := n4_
                clear n0_ n1_ n2_ n3_ n4_
                have p245 : 0 ≤ (x6_2 : Int) := of_decide_eq_true (by first | (with_reducible assumption) | assumption)
                have q245 : x6_2 < (l0.length : Int) := of_decide_eq_true (by first | (with_reducible assumption) | assumption)
                obtain ⟨ad245, e245, hx245_0⟩ := Kd.at_int HR0.out x6_2 p245 q245
                have hw245_0 := hx245_0
                obtain rfl : ad241 = ad245 := (by injection e245)
                replace hx245_0 := (HB.out.cell (World.block_lt_of_cell? w _ hx245_0)).trans hx245_0
                replace p245 := eq_true p245
                replace q245 := eq_true q245
                have p249 : 0 ≤ (x6_2 : Int) := of_decide_eq_true (by first | (with_reducible assumption) | assumption)
                have q249 : x6_2 < (l0.length : Int) := of_decide_eq_true (by first | (with_reducible assumption) | assumption)
                obtain ⟨ad249, e249, hx249_0⟩ := Kd.at_int HR0.out x6_2 p249 q249
                have hw249_0 := hx249_0
                obtain rfl : ad241 = ad249 := (by injection e249)
                replace hx249_0 := (HB.out.cell (World.block_lt_of_cell? w _ hx249_0)).trans hx249_0
                replace p249 := eq_true p249
                replace q249 := eq_true q249
                refine start_ (n := 17) (S := fun w' => w'.cell? (ad241.add (x6_2).toNat) = some (.int .u8 (rd l0 x6_2)) ∧ w'.cell? (ad241.add (x6_2).toNat) = some (.int .u8 (rd l0 x6_2))) (ds := []) (ml_ 17 0) (by kernel_rfl) rfl rfl ⟨((HB.out.cell (World.block_lt_of_cell? w _ hw245_0)).trans hw245_0), ((HB.out.cell (World.block_lt_of_cell? w _ hw249_0)).trans hw249_0)⟩ (fun hHeld => ?_); refine with_tabW caravanlaw5_Make.tab9 caravanlaw5_Make.bits9 (fun HT_ HW_ => ?_)
                generalize wc.drew = w63 at HO_243002 HO_243003 BK240 BK242 HB hx245_0 hx249_0 hHeld ⊢
                refine pA_ 0 35 (ml_ 17 1) rfl rfl HT_.out ?_
                refine pA_ 1 36 (ml_ 17 3) rfl rfl HT_.out ?_
                refine pA_ 2 37 (ml_ 17 7) rfl rfl HT_.out ?_
                refine pA_ 8 43 (ml_ 17 263) rfl rfl HT_.out ?_
                refine pA_ 9 44 (ml_ 17 775) rfl rfl HT_.out ?_
                refine pA_ 10 45 (ml_ 17 1799) rfl rfl HT_.out ?_
                refine t2_ 3 38 (ml_ 17 1807) rfl rfl HT_.out HW_.out hHeld ?_
                refine pA_ 4 39 (ml_ 17 1823) rfl rfl HT_.out ?_
                refine pA_ 5 40 (ml_ 17 1855) rfl rfl HT_.out ?_
                refine t2_ 11 46 (ml_ 17 3903) rfl rfl HT_.out HW_.out hHeld ?_
                refine pA_ 12 47 (ml_ 17 7999) rfl rfl HT_.out ?_
                refine pA_ 13 48 (ml_ 17 16191) rfl rfl HT_.out ?_
                refine join_ (σ := Value) 2 (ml_ 17 32767) (fun s_ => [(41, s_), (42, .string (strOfNums y246)), (49, .string t250)]) (fun s_ w' => (w'.cell? (ad241.add (x6_2).toNat) = some (.int .u8 (rd l0 x6_2)) ∧ w'.cell? (ad241.add (x6_2).toNat) = some (.int .u8 (rd l0 x6_2))) ∧ (Kd.R (Kd.int .u8) 5 w' w.heap.size (fun _ => True) s_ y246) ∧ (Kd.R k29 29 w' w.heap.size (fun _ => True) u243002 x243002_2) ∧ (Kd.R Kd.string 9 w' w.heap.size (fun _ => True) u243003 x243003_2) ∧ (w'.heap[gb240]? = some (.cells #[.int .i64 0, .string (⟨#[]⟩ : ByteArray), .slice none 0 0, .slice none 0 0, .int .i64 0] 26 (0, 0))) ∧ (w'.heap[gb242]? = some (.cells #[.int .i64 (wrap64 (1 + (Int.tmod (wrap64 (rd l0 0)) 4))), .string x243001_2, u243002, u243003, .int .i64 x243004_6] 26 (0, 0))) ∧ (Below w.heap.size w w')) ?_ ?_
                rotate_left
                ·intro hCont
                 refine two_ (i := 6) (j := 14) (Ni := some 41) (Nj := some 49) (ml_ 17 16255) (ml_ 17 32575) rfl rfl rfl rfl (two_of HT_.out (by kernel_rfl)) (by decide) (by decide) (fun K hK => ?_) (fun K hK => ?_)
                 ·skip
                  refine Kd.R_lit_step (Kd.int .u8) _ 5 ?hg (N := 41) ?hd (xs := ([(97 + (Int.tmod (rd l0 x6_2) 5)) % 256] : List Int)) (inner := [.int .u8 ((97 + (Int.tmod (rd l0 x6_2) 5)) % 256)]) (ok := fun _ => True) (okp := fun _ => True) ?hr ?hp (fun _ hk => hk) trivial (Below.refl _ _) (Nat.le_refl _) (by simp) ?_; (case hd => rfl); (case hg => rfl); (case hr => first | (go_simp; done) | (go_simp; rfl)); (case hp => exact (Reps.one (show Kd.M (Kd.int .u8) _ _ _ ((97 + (Int.tmod (rd l0 x6_2) 5)) % 256) [.int .u8 ((97 + (Int.tmod (rd l0 x6_2) 5)) % 256)] from rfl) (Reps.none _ _)))
                  intro v247 w64 ho65 hb hg_ hnew_
                  clear hg_ hnew_
                  (first | rw [← Ny246.out] at ho65 | (simp only [Int.reduceToNat] at ho65; rw [← Ny246.out] at ho65))
                  have n0_ := Aside0.mk (Kd.R_below (q8524_ HO_243002.out) hb)
                  have n1_ := Aside0.mk (Kd.R_below (q8524_ HO_243003.out) hb)
                  have n2_ := Aside0.mk (Kd.R_lower ho65 (below_size (q8f57_ HB.out GE240.out GE242.out)))
                  have n3_ := Aside0.mk (blk_below (g := gb240) (o := .cells #[.int .i64 0, .string (⟨#[]⟩ : ByteArray), .slice none 0 0, .slice none 0 0, .int .i64 0] 26 (0, 0)) (q1466_ BK240.out) hb)
                  have n4_ := Aside0.mk (blk_below (g := gb242) (o := .cells #[.int .i64 (wrap64 (1 + (Int.tmod (wrap64 (rd l0 0)) 4))), .string x243001_2, u243002, u243003, .int .i64 x243004_6] 26 (0, 0)) (q1466_ BK242.out) hb)
                  have n5_ := Aside0.mk (below_step (q8f57_ HB.out GE240.out GE242.out) hb)
                  clear HO_243002
                  clear HO_243003
                  clear BK240
                  clear BK242
                  clear HB
                  have HO_243002 := n0_
                  have HO_243003 := n1_
                  have HO248 := n2_
                  have BK240 := n3_
                  have BK242 := n4_
                  have HB := n5_
                  clear n0_ n1_ n2_ n3_ n4_ n5_
                  clear hb ho65
                  refine hK.out _ _ ⟨((HB.out.cell (World.block_lt_of_cell? w _ hw245_0)).trans hw245_0), ((HB.out.cell (World.block_lt_of_cell? w _ hw249_0)).trans hw249_0)⟩ (fun hHeld => ?_)
                  clear hK K
                  refine nA_ 41 ?_
                  refine two_ (i := 7) (j := 14) (Ni := some 42) (Nj := some 49) (ml_ 17 16383) (ml_ 17 32639) rfl rfl rfl rfl (two_of HT_.out (by kernel_rfl)) (by decide) (by decide) (fun K hK => ?_) (fun K hK => ?_)
                  ·skip
                   have hcv66 := own_string (P := Try.prog) Try.underlying40 Try.underlying5 Try.underlying9 (Kd.own_of_R HO248.out)
                   refine value_ (w1 := ?_) (v := ?_) (by rfl) rfl ?_ ?_
                   rotate_left 2
                   ·go_simp
                    constructor
                    ·rfl
                    ·rfl
                   clear hcv66
                   refine hK.out _ _ ⟨((HB.out.cell (World.block_lt_of_cell? w _ hw245_0)).trans hw245_0), ((HB.out.cell (World.block_lt_of_cell? w _ hw249_0)).trans hw249_0)⟩ (fun hHeld => ?_)
                   clear hK K
                   refine nA_ 42 ?_
                   refine one_ (i := 14) (N := some 49) (ml_ 17 32767) rfl rfl (one_of HT_.out (by kernel_rfl)) (by decide) (fun K hK => ?_)
                   refine goes_ Try.func8 (by kernel_rfl) rfl #[.int .i64 (Int.tmod (wrap64 (rd l0 x6_2)) 3)] (by rfl) rfl rfl qM_ ?_
                   with_reducible refine (caravanref1_Digits.calls kj14 (Int.tmod (wrap64 (rd l0 x6_2)) 3) t250 _ A20.out).mono ?_
                   rintro e w67 ⟨rfl, hb⟩
                   refine ⟨_, rfl, ?_⟩
                   have n0_ := Aside0.mk (Kd.R_below (q8524_ HO_243002.out) hb)
                   have n1_ := Aside0.mk (Kd.R_below (q8524_ HO_243003.out) hb)
                   have n2_ := Aside0.mk (Kd.R_below (q8524_ HO248.out) hb)
                   have n3_ := Aside0.mk (blk_below (g := gb240) (o := .cells #[.int .i64 0, .string (⟨#[]⟩ : ByteArray), .slice none 0 0, .slice none 0 0, .int .i64 0] 26 (0, 0)) (q1466_ BK240.out) hb)
                   have n4_ := Aside0.mk (blk_below (g := gb242) (o := .cells #[.int .i64 (wrap64 (1 + (Int.tmod (wrap64 (rd l0 0)) 4))), .string x243001_2, u243002, u243003, .int .i64 x243004_6] 26 (0, 0)) (q1466_ BK242.out) hb)
                   have n5_ := Aside0.mk (below_step (q8f57_ HB.out GE240.out GE242.out) hb)
                   clear HO_243002
                   clear HO_243003
                   clear HO248
                   clear BK240
                   clear BK242
                   clear HB
                   have HO_243002 := n0_
                   have HO_243003 := n1_
                   have HO248 := n2_
                   have BK240 := n3_
                   have BK242 := n4_
                   have HB := n5_
                   clear n0_ n1_ n2_ n3_ n4_ n5_
                   (try clear hb)
                   (try clear hb2)
                   (try clear hk)
                   (try clear hi)
                   refine hK.out _ _ ⟨((HB.out.cell (World.block_lt_of_cell? w _ hw245_0)).trans hw245_0), ((HB.out.cell (World.block_lt_of_cell? w _ hw249_0)).trans hw249_0)⟩ (fun hHeld => ?_)
                   clear hK K
                   refine nA_ 49 ?_
                   exact norm_ (by simp only [putAll, Act.put, List.setIfInBounds_toArray, List.set_cons_zero, List.set_cons_succ]) (hCont (v247) _ ⟨hHeld, (q8524_ HO248.out), (q8524_ HO_243002.out), (q8524_ HO_243003.out), (q1466_ BK240.out), (q1466_ BK242.out), (q8f57_ HB.out GE240.out GE242.out)⟩)
                  ·skip
                   refine goes_ Try.func8 (by kernel_rfl) rfl #[.int .i64 (Int.tmod (wrap64 (rd l0 x6_2)) 3)] (by rfl) rfl rfl qM_ ?_
                   with_reducible refine (caravanref1_Digits.calls kj14 (Int.tmod (wrap64 (rd l0 x6_2)) 3) t250 _ A20.out).mono ?_
                   rintro e w66 ⟨rfl, hb⟩
                   refine ⟨_, rfl, ?_⟩
                   have n0_ := Aside0.mk (Kd.R_below (q8524_ HO_243002.out) hb)
                   have n1_ := Aside0.mk (Kd.R_below (q8524_ HO_243003.out) hb)
                   have n2_ := Aside0.mk (Kd.R_below (q8524_ HO248.out) hb)
                   have n3_ := Aside0.mk (blk_below (g := gb240) (o := .cells #[.int .i64 0, .string (⟨#[]⟩ : ByteArray), .slice none 0 0, .slice none 0 0, .int .i64 0] 26 (0, 0)) (q1466_ BK240.out) hb)
                   have n4_ := Aside0.mk (blk_below (g := gb242) (o := .cells #[.int .i64 (wrap64 (1 + (Int.tmod (wrap64 (rd l0 0)) 4))), .string x243001_2, u243002, u243003, .int .i64 x243004_6] 26 (0, 0)) (q1466_ BK242.out) hb)
                   have n5_ := Aside0.mk (below_step (q8f57_ HB.out GE240.out GE242.out) hb)
                   clear HO_243002
                   clear HO_243003
                   clear HO248
                   clear BK240
                   clear BK242
                   clear HB
                   have HO_243002 := n0_
                   have HO_243003 := n1_
                   have HO248 := n2_
                   have BK240 := n3_
                   have BK242 := n4_
                   have HB := n5_
                   clear n0_ n1_ n2_ n3_ n4_ n5_
                   (try clear hb)
                   (try clear hb2)
                   (try clear hk)
                   (try clear hi)
                   refine hK.out _ _ ⟨((HB.out.cell (World.block_lt_of_cell? w _ hw245_0)).trans hw245_0), ((HB.out.cell (World.block_lt_of_cell? w _ hw249_0)).trans hw249_0)⟩ (fun hHeld => ?_)
                   clear hK K
                   refine nA_ 49 ?_
                   refine one_ (i := 7) (N := some 42) (ml_ 17 32767) rfl rfl (one_of HT_.out (by kernel_rfl)) (by decide) (fun K hK => ?_)
                   have hcv67 := own_string (P := Try.prog) Try.underlying40 Try.underlying5 Try.underlying9 (Kd.own_of_R HO248.out)
                   refine value_ (w1 := ?_) (v := ?_) (by rfl) rfl ?_ ?_
                   rotate_left 2
                   ·go_simp
                    constructor
                    ·rfl
                    ·rfl
                   clear hcv67
                   refine hK.out _ _ ⟨((HB.out.cell (World.block_lt_of_cell? w _ hw245_0)).trans hw245_0), ((HB.out.cell (World.block_lt_of_cell? w _ hw249_0)).trans hw249_0)⟩ (fun hHeld => ?_)
                   clear hK K
                   refine nA_ 42 ?_
                   exact norm_ (by simp only [putAll, Act.put, List.setIfInBounds_toArray, List.set_cons_zero, List.set_cons_succ]) (hCont (v247) _ ⟨hHeld, (q8524_ HO248.out), (q8524_ HO_243002.out), (q8524_ HO_243003.out), (q1466_ BK240.out), (q1466_ BK242.out), (q8f57_ HB.out GE240.out GE242.out)⟩)
                 ·skip
                  refine goes_ Try.func8 (by kernel_rfl) rfl #[.int .i64 (Int.tmod (wrap64 (rd l0 x6_2)) 3)] (by rfl) rfl rfl qM_ ?_
                  with_reducible refine (caravanref1_Digits.calls kj14 (Int.tmod (wrap64 (rd l0 x6_2)) 3) t250 _ A20.out).mono ?_
                  rintro e w64 ⟨rfl, hb⟩
                  refine ⟨_, rfl, ?_⟩
                  have n0_ := Aside0.mk (Kd.R_below (q8524_ HO_243002.out) hb)
                  have n1_ := Aside0.mk (Kd.R_below (q8524_ HO_243003.out) hb)
                  have n2_ := Aside0.mk (blk_below (g := gb240) (o := .cells #[.int .i64 0, .string (⟨#[]⟩ : ByteArray), .slice none 0 0, .slice none 0 0, .int .i64 0] 26 (0, 0)) (q1466_ BK240.out) hb)
                  have n3_ := Aside0.mk (blk_below (g := gb242) (o := .cells #[.int .i64 (wrap64 (1 + (Int.tmod (wrap64 (rd l0 0)) 4))), .string x243001_2, u243002, u243003, .int .i64 x243004_6] 26 (0, 0)) (q1466_ BK242.out) hb)
                  have n4_ := Aside0.mk (below_step (q8f57_ HB.out GE240.out GE242.out) hb)
                  clear HO_243002
                  clear HO_243003
                  clear BK240
                  clear BK242
                  clear HB
                  have HO_243002 := n0_
                  have HO_243003 := n1_
                  have BK240 := n2_
                  have BK242 := n3_
                  have HB := n4_
                  clear n0_ n1_ n2_ n3_ n4_
                  (try clear hb)
                  (try clear hb2)
                  (try clear hk)
                  (try clear hi)
                  refine hK.out _ _ ⟨((HB.out.cell (World.block_lt_of_cell? w _ hw245_0)).trans hw245_0), ((HB.out.cell (World.block_lt_of_cell? w _ hw249_0)).trans hw249_0)⟩ (fun hHeld => ?_)
                  clear hK K
                  refine nA_ 49 ?_
                  refine one_ (i := 6) (N := some 41) (ml_ 17 32639) rfl rfl (one_of HT_.out (by kernel_rfl)) (by decide) (fun K hK => ?_)
                  refine Kd.R_lit_step (Kd.int .u8) _ 5 ?hg (N := 41) ?hd (xs := ([(97 + (Int.tmod (rd l0 x6_2) 5)) % 256] : List Int)) (inner := [.int .u8 ((97 + (Int.tmod (rd l0 x6_2) 5)) % 256)]) (ok := fun _ => True) (okp := fun _ => True) ?hr ?hp (fun _ hk => hk) trivial (Below.refl _ _) (Nat.le_refl _) (by simp) ?_; (case hd => rfl); (case hg => rfl); (case hr => first | (go_simp; done) | (go_simp; rfl)); (case hp => exact (Reps.one (show Kd.M (Kd.int .u8) _ _ _ ((97 + (Int.tmod (rd l0 x6_2) 5)) % 256) [.int .u8 ((97 + (Int.tmod (rd l0 x6_2) 5)) % 256)] from rfl) (Reps.none _ _)))
                  intro v247 w65 ho66 hb hg_ hnew_
                  clear hg_ hnew_
                  (first | rw [← Ny246.out] at ho66 | (simp only [Int.reduceToNat] at ho66; rw [← Ny246.out] at ho66))
                  have n0_ := Aside0.mk (Kd.R_below (q8524_ HO_243002.out) hb)
                  have n1_ := Aside0.mk (Kd.R_below (q8524_ HO_243003.out) hb)
                  have n2_ := Aside0.mk (Kd.R_lower ho66 (below_size (q8f57_ HB.out GE240.out GE242.out)))
                  have n3_ := Aside0.mk (blk_below (g := gb240) (o := .cells #[.int .i64 0, .string (⟨#[]⟩ : ByteArray), .slice none 0 0, .slice none 0 0, .int .i64 0] 26 (0, 0)) (q1466_ BK240.out) hb)
                  have n4_ := Aside0.mk (blk_below (g := gb242) (o := .cells #[.int .i64 (wrap64 (1 + (Int.tmod (wrap64 (rd l0 0)) 4))), .string x243001_2, u243002, u243003, .int .i64 x243004_6] 26 (0, 0)) (q1466_ BK242.out) hb)
                  have n5_ := Aside0.mk (below_step (q8f57_ HB.out GE240.out GE242.out) hb)
                  clear HO_243002
                  clear HO_243003
                  clear BK240
                  clear BK242
                  clear HB
                  have HO_243002 := n0_
                  have HO_243003 := n1_
                  have HO248 := n2_
                  have BK240 := n3_
                  have BK242 := n4_
                  have HB := n5_
                  clear n0_ n1_ n2_ n3_ n4_ n5_
                  clear hb ho66
                  refine hK.out _ _ ⟨((HB.out.cell (World.block_lt_of_cell? w _ hw245_0)).trans hw245_0), ((HB.out.cell (World.block_lt_of_cell? w _ hw249_0)).trans hw249_0)⟩ (fun hHeld => ?_)
                  clear hK K
                  refine nA_ 41 ?_
                  refine one_ (i := 7) (N := some 42) (ml_ 17 32767) rfl rfl (one_of HT_.out (by kernel_rfl)) (by decide) (fun K hK => ?_)
                  have hcv67 := own_string (P := Try.prog) Try.underlying40 Try.underlying5 Try.underlying9 (Kd.own_of_R HO248.out)
                  refine value_ (w1 := ?_) (v := ?_) (by rfl) rfl ?_ ?_
                  rotate_left 2
                  ·go_simp
                   constructor
                   ·rfl
                   ·rfl
                  clear hcv67
                  refine hK.out _ _ ⟨((HB.out.cell (World.block_lt_of_cell? w _ hw245_0)).trans hw245_0), ((HB.out.cell (World.block_lt_of_cell? w _ hw249_0)).trans hw249_0)⟩ (fun hHeld => ?_)
                  clear hK K
                  refine nA_ 42 ?_
                  exact norm_ (by simp only [putAll, Act.put, List.setIfInBounds_toArray, List.set_cons_zero, List.set_cons_succ]) (hCont (v247) _ ⟨hHeld, (q8524_ HO248.out), (q8524_ HO_243002.out), (q8524_ HO_243003.out), (q1466_ BK240.out), (q1466_ BK242.out), (q8f57_ HB.out GE240.out GE242.out)⟩)
                rintro v247 w68 ⟨hS_, h0_, h1_, h2_, h3_, h4_, h5_⟩
                have n0_ : Aside0 (Kd.R (Kd.int .u8) 5 w68 w.heap.size (fun _ => True) v247 y246) := ⟨h0_⟩
                have n1_ : Aside0 (Kd.R k29 29 w68 w.heap.size (fun _ => True) u243002 x243002_2) := ⟨h1_⟩
                have n2_ : Aside0 (Kd.R Kd.string 9 w68 w.heap.size (fun _ => True) u243003 x243003_2) := ⟨h2_⟩
                have n3_ : Aside0 (w68.heap[gb240]? = some (.cells #[.int .i64 0, .string (⟨#[]⟩ : ByteArray), .slice none 0 0, .slice none 0 0, .int .i64 0] 26 (0, 0))) := ⟨h3_⟩
                have n4_ : Aside0 (w68.heap[gb242]? = some (.cells #[.int .i64 (wrap64 (1 + (Int.tmod (wrap64 (rd l0 0)) 4))), .string x243001_2, u243002, u243003, .int .i64 x243004_6] 26 (0, 0))) := ⟨h4_⟩
                have n5_ : Aside0 (Below w.heap.size w w68) := ⟨h5_⟩
                clear HO_243002
                clear HO_243003
                clear BK240
                clear BK242
                clear HB
                clear h0_ h1_ h2_ h3_ h4_ h5_
                have HO248 := n0_
                have HO_243002 := n1_
                have HO_243003 := n2_
                have BK240 := n3_
                have BK242 := n4_
                have HB := n5_
                clear n0_ n1_ n2_ n3_ n4_ n5_
                have hHeld : w68.cell? (ad241.add (x6_2).toNat) = some (.int .u8 (rd l0 x6_2)) ∧ w68.cell? (ad241.add (x6_2).toNat) = some (.int .u8 (rd l0 x6_2)) := hS_
                refine norm_ (a' := ?_) ?_ ?_
                rotate_left
                ·simp only [putAll, Act.put, List.setIfInBounds_toArray, List.set_cons_zero, List.set_cons_succ]
                 rfl
                refine pA_ 15 50 (ml_ 17 65535) rfl rfl HT_.out ?_
                refine pA_ 16 7 (ml_ 17 131071) rfl rfl HT_.out ?_
                refine done_ (done_of HT_.out (by kernel_rfl)) ?_
                have hnb69 := NB242_240.out
                have hnc69 := NB240_242.out
                have hcz70_0 : w68.cell? ⟨gb242, 0, none⟩ = some (.int .i64 (wrap64 (1 + (Int.tmod (wrap64 (rd l0 0)) 4)))) := (blk_cell BK242.out 0).trans rfl
                have hcz70_1 : w68.cell? ⟨gb242, 1, none⟩ = some (.string x243001_2) := (blk_cell BK242.out 1).trans rfl
                have hcz70_2 : w68.cell? ⟨gb242, 2, none⟩ = some (u243002) := (blk_cell BK242.out 2).trans rfl
                have hcz70_3 : w68.cell? ⟨gb242, 3, none⟩ = some (u243003) := (blk_cell BK242.out 3).trans rfl
                have hcz70_4 : w68.cell? ⟨gb242, 4, none⟩ = some (.int .i64 x243004_6) := (blk_cell BK242.out 4).trans rfl
                have hfz70_0 := blk_frozen BK242.out 0
                have hfz70_1 := blk_frozen BK242.out 1
                have hfz70_2 := blk_frozen BK242.out 2
                have hfz70_3 := blk_frozen BK242.out 3
                have hfz70_4 := blk_frozen BK242.out 4
                obtain ⟨Ao71, co71, eo71⟩ := Kd.R_slice HO_243003.out
                subst eo71
                try go_wp2_with (first | ((with_reducible refine gate_callee (f := 31) rfl ?_); refine goesL_ (some 56) rfl rfl Try.func31 (by kernel_rfl) rfl #[.slice Ao71 x243003_2.length co71, .string ((strOfNums y246) ++ t250)] rfl qM_ ?_; (with_reducible refine (caravanref5_SAdd.calls kj14 _ _ x243003_2 ((strOfNums y246) ++ t250) t259 _ ?side1 ?side2 A62.out).mono ?_); (case side1 => exact qC_ ((Kd.R_reads' HO_243003.out).2.2)); (case side2 => exact (Kd.R_reads' HO_243003.out).2.1); rintro e w72 ⟨v260, rfl, ho0, hb⟩; refine ⟨_, rfl, ?_⟩; have n0_ := Aside0.mk (Kd.R_below (q8524_ HO_243002.out) hb); have n1_ := Aside0.mk (Kd.R_elder' (q8524_ HO_243003.out) (Kd.R_base ho0) hb); have n2_ := Aside0.mk (Kd.R_below (q8524_ HO248.out) hb); have n3_ := Aside0.mk (Kd.R_lower (Kd.R_new' ho0 (Kd.R_lt (q8524_ HO_243003.out))) (below_size (q8f57_ HB.out GE240.out GE242.out))); have n4_ := Aside0.mk (blk_below (g := gb240) (o := .cells #[.int .i64 0, .string (⟨#[]⟩ : ByteArray), .slice none 0 0, .slice none 0 0, .int .i64 0] 26 (0, 0)) (q1466_ BK240.out) hb); have n5_ := Aside0.mk (blk_below (g := gb242) (o := .cells #[.int .i64 (wrap64 (1 + (Int.tmod (wrap64 (rd l0 0)) 4))), .string x243001_2, u243002, .slice Ao71 x243003_2.length co71, .int .i64 x243004_6] 26 (0, 0)) (q1466_ BK242.out) hb); have n6_ := Aside0.mk (below_step (q8f57_ HB.out GE240.out GE242.out) hb); clear HO_243002; clear HO_243003; clear HO248; clear BK240; clear BK242; clear HB; have HO_243002 := n0_; have HO_243003 := n1_; have HO248 := n2_; have HO261 := n3_; have BK240 := n4_; have BK242 := n5_; have HB := n6_; clear n0_ n1_ n2_ n3_ n4_ n5_ n6_; (try clear hb); (try clear hb2); (try clear hk); (try clear hi); (try clear ho0); obtain ⟨Ao73, co73, eo73⟩ := Kd.R_slice HO261.out; subst eo73; have hcz74_0 : w72.cell? ⟨gb242, 0, none⟩ = some (.int .i64 (wrap64 (1 + (Int.tmod (wrap64 (rd l0 0)) 4)))) := (blk_cell BK242.out 0).trans rfl; have hcz74_1 : w72.cell? ⟨gb242, 1, none⟩ = some (.string x243001_2) := (blk_cell BK242.out 1).trans rfl; have hcz74_2 : w72.cell? ⟨gb242, 2, none⟩ = some (u243002) := (blk_cell BK242.out 2).trans rfl; have hcz74_3 : w72.cell? ⟨gb242, 3, none⟩ = some (.slice Ao71 x243003_2.length co71) := (blk_cell BK242.out 3).trans rfl; have hcz74_4 : w72.cell? ⟨gb242, 4, none⟩ = some (.int .i64 x243004_6) := (blk_cell BK242.out 4).trans rfl; have hfz74_0 := blk_frozen BK242.out 0; have hfz74_1 := blk_frozen BK242.out 1; have hfz74_2 := blk_frozen BK242.out 2; have hfz74_3 := blk_frozen BK242.out 3; have hfz74_4 := blk_frozen BK242.out 4))
                go_roundg kj14
                case measure => have := HJ6.out; have := HK2.out; have := HJ14.out; omega
                case rel => exact ⟨(wrap64 (x6_2 + 1)), (x243001_2), (x243002_2), (t259), (u243002), (.slice Ao73 t259.length co73), (by first | rfl | (simp; done) | (simp [*]; done)), H', ⟨by have := HJ6.out; have := HK2.out; have := HJ14.out; omega⟩, ⟨by (with_reducible repeat (first | apply Kd.R_alloc | apply Kd.R_drewN | apply Kd.R_drew)); exact Kd.R_mono (Kd.R_far (p := ⟨gb242, 3, none⟩) (Kd.R_types HO_243002.out BK242.out (by decide)) (fun _ hk => hk.2) (.slice Ao73 t259.length co73)) (fun _ hk => trivial)⟩, ⟨by (with_reducible repeat (first | apply Kd.R_alloc | apply Kd.R_drewN | apply Kd.R_drew)); exact Kd.R_mono (Kd.R_far (p := ⟨gb242, 3, none⟩) (Kd.R_types HO261.out BK242.out (by decide)) (fun _ hk => hk.2) (.slice Ao73 t259.length co73)) (fun _ hk => trivial)⟩, ⟨by (with_reducible repeat (first | refine blk_drewN ?_ _ | refine blk_drew ?_ | refine blk_alloc ?_ _)); refine blk_far ?_ NB240_242.out _; (with_reducible repeat (first | refine blk_drewN ?_ _ | refine blk_drew ?_ | refine blk_alloc ?_ _)); exact BK240.out⟩, ⟨by (with_reducible repeat (first | refine blk_drewN ?_ _ | refine blk_drew ?_ | refine blk_alloc ?_ _)); refine blk_put (cs := #[.int .i64 (wrap64 (1 + (Int.tmod (wrap64 (rd l0 0)) 4))), .string x243001_2, u243002, .slice Ao71 x243003_2.length co71, .int .i64 x243004_6]) ?_ 3 _ rfl; (with_reducible repeat (first | refine blk_drewN ?_ _ | refine blk_drew ?_ | refine blk_alloc ?_ _)); exact BK242.out⟩, ⟨(q8f57_ HB.out GE240.out GE242.out)⟩⟩
            ·rw [if_neg c21] at H
             exact absurd H (by simp)
           ·rw [if_neg c19] at H
            exact absurd H (by simp)
          ·rw [if_neg c18] at H
           exact absurd H (by simp)
         ·replace c17 := Bool.eq_false_iff.mpr c17
          subst c17
          have H1 : (if (l0.length : Int) = 1 then (if (wrap64 (1 + (Int.tmod (wrap64 (rd l0 0)) 4))) = 1 then (some ((wrap64 (1 + (Int.tmod (wrap64 (rd l0 0)) 4))), x243001_2, x243002_2, x243003_2, x243004_6)) else (if 0 < (l0.length : Int) then ((caravanref1_Digits.f kj14 (wrap64 (rd l0 0))).bind fun t244 => (some (1, t244, ([] : List (S29)), ([] : List ByteArray), x243004_6))) else (none))) else (some ((wrap64 (1 + (Int.tmod (wrap64 (rd l0 0)) 4))), x243001_2, x243002_2, x243003_2, x243004_6))) = some (r1, r2, r3, r4, r5) := by rw [if_neg (show ¬ (false = true) by decide)] at H; exact H
          clear H
          have H := H1
          clear H1
          by_cases c75 : (l0.length : Int) = 1
          ·rw [if_pos c75] at H
           have c75b0 : ((l0.length : Int) == 1) = true := beq_iff_eq.mpr c75
           have c75b1 : ((l0.length : Int) != 1) = false := bne_eq_false_iff_eq.mpr c75
           clear c75
           by_cases c76 : (wrap64 (1 + (Int.tmod (wrap64 (rd l0 0)) 4))) = 1
           ·rw [if_pos c76] at H
            have c76b0 : ((wrap64 (1 + (Int.tmod (wrap64 (rd l0 0)) 4))) == 1) = true := beq_iff_eq.mpr c76
            have c76b1 : ((wrap64 (1 + (Int.tmod (wrap64 (rd l0 0)) 4))) != 1) = false := bne_eq_false_iff_eq.mpr c76
            clear c76
            simp only [Option.some.injEq, Prod.mk.injEq] at H
            obtain ⟨rfl, rfl, rfl, rfl, rfl⟩ := H
            have hnb77 := NB242_240.out
            have hnc77 := NB240_242.out
            have hcz78_0 : wc.cell? ⟨gb242, 0, none⟩ = some (.int .i64 (wrap64 (1 + (Int.tmod (wrap64 (rd l0 0)) 4)))) := (blk_cell BK242.out 0).trans rfl
            have hcz78_1 : wc.cell? ⟨gb242, 1, none⟩ = some (.string x243001_2) := (blk_cell BK242.out 1).trans rfl
            have hcz78_2 : wc.cell? ⟨gb242, 2, none⟩ = some (u243002) := (blk_cell BK242.out 2).trans rfl
            have hcz78_3 : wc.cell? ⟨gb242, 3, none⟩ = some (u243003) := (blk_cell BK242.out 3).trans rfl
            have hcz78_4 : wc.cell? ⟨gb242, 4, none⟩ = some (.int .i64 x243004_6) := (blk_cell BK242.out 4).trans rfl
            have hfz78_0 := blk_frozen BK242.out 0
            have hfz78_1 := blk_frozen BK242.out 1
            have hfz78_2 := blk_frozen BK242.out 2
            have hfz78_3 := blk_frozen BK242.out 3
            have hfz78_4 := blk_frozen BK242.out 4
            have hcz79_0 : wc.cell? ⟨gb240, 0, none⟩ = some (.int .i64 0) := (blk_cell BK240.out 0).trans rfl
            have hcz79_1 : wc.cell? ⟨gb240, 1, none⟩ = some (.string (⟨#[]⟩ : ByteArray)) := (blk_cell BK240.out 1).trans rfl
            have hcz79_2 : wc.cell? ⟨gb240, 2, none⟩ = some (.slice none 0 0) := (blk_cell BK240.out 2).trans rfl
            have hcz79_3 : wc.cell? ⟨gb240, 3, none⟩ = some (.slice none 0 0) := (blk_cell BK240.out 3).trans rfl
            have hcz79_4 : wc.cell? ⟨gb240, 4, none⟩ = some (.int .i64 0) := (blk_cell BK240.out 4).trans rfl
            have hfz79_0 := blk_frozen BK240.out 0
            have hfz79_1 := blk_frozen BK240.out 1
            have hfz79_2 := blk_frozen BK240.out 2
            have hfz79_3 := blk_frozen BK240.out 3
            have hfz79_4 := blk_frozen BK240.out 4
            obtain ⟨Ao80, co80, eo80⟩ := Kd.R_slice HO_243002.out
            subst eo80
            obtain ⟨Ao81, co81, eo81⟩ := Kd.R_slice HO_243003.out
            subst eo81
            go_wp2
            refine bodyPost_ret (results_cell_row rfl _ _ gb240 26 #[.int .i64 (wrap64 (1 + (Int.tmod (wrap64 (rd l0 0)) 4))), .string x243001_2, .slice Ao80 x243002_2.length co80, .slice Ao81 x243003_2.length co81, .int .i64 x243004_6] (0, 0) _ rfl (by (with_reducible repeat (first | refine blk_drewN ?_ _ | refine blk_drew ?_ | refine blk_alloc ?_ _)); refine blk_put (cs := #[.int .i64 (wrap64 (1 + (Int.tmod (wrap64 (rd l0 0)) 4))), .string x243001_2, .slice Ao80 x243002_2.length co80, .slice Ao81 x243003_2.length co81, .int .i64 0]) ?_ 4 _ rfl; (with_reducible repeat (first | refine blk_drewN ?_ _ | refine blk_drew ?_ | refine blk_alloc ?_ _)); refine blk_put (cs := #[.int .i64 (wrap64 (1 + (Int.tmod (wrap64 (rd l0 0)) 4))), .string x243001_2, .slice Ao80 x243002_2.length co80, .slice none 0 0, .int .i64 0]) ?_ 3 _ rfl; (with_reducible repeat (first | refine blk_drewN ?_ _ | refine blk_drew ?_ | refine blk_alloc ?_ _)); refine blk_put (cs := #[.int .i64 (wrap64 (1 + (Int.tmod (wrap64 (rd l0 0)) 4))), .string x243001_2, .slice none 0 0, .slice none 0 0, .int .i64 0]) ?_ 2 _ rfl; (with_reducible repeat (first | refine blk_drewN ?_ _ | refine blk_drew ?_ | refine blk_alloc ?_ _)); refine blk_put (cs := #[.int .i64 (wrap64 (1 + (Int.tmod (wrap64 (rd l0 0)) 4))), .string (⟨#[]⟩ : ByteArray), .slice none 0 0, .slice none 0 0, .int .i64 0]) ?_ 1 _ rfl; (with_reducible repeat (first | refine blk_drewN ?_ _ | refine blk_drew ?_ | refine blk_alloc ?_ _)); refine blk_put (cs := #[.int .i64 0, .string (⟨#[]⟩ : ByteArray), .slice none 0 0, .slice none 0 0, .int .i64 0]) ?_ 0 _ rfl; (with_reducible repeat (first | refine blk_drewN ?_ _ | refine blk_drew ?_ | refine blk_alloc ?_ _)); exact BK240.out) Try.underlying26 rfl (by kernel_rfl)) rfl ?_
            exact ⟨_, _, by first | rfl | (simp [errW_none, errW_some] <;> rfl) | (simp [*, errW_none, errW_some] <;> rfl), by (with_reducible repeat (first | apply Kd.R_alloc | apply Kd.R_drewN | apply Kd.R_drew)); exact Kd.R_mono (Kd.R_far (p := ⟨gb240, 4, none⟩) (Kd.R_far (p := ⟨gb240, 3, none⟩) (Kd.R_far (p := ⟨gb240, 2, none⟩) (Kd.R_far (p := ⟨gb240, 1, none⟩) (Kd.R_far (p := ⟨gb240, 0, none⟩) (Kd.R_types HO_243002.out BK240.out (by decide)) (fun _ hk => hk.2) (.int .i64 (wrap64 (1 + (Int.tmod (wrap64 (rd l0 0)) 4))))) (fun _ hk => hk.2) (.string x243001_2)) (fun _ hk => hk.2) (.slice Ao80 x243002_2.length co80)) (fun _ hk => hk.2) (.slice Ao81 x243003_2.length co81)) (fun _ hk => hk.2) (.int .i64 x243004_6)) (fun _ hk => trivial), by (with_reducible repeat (first | apply Kd.R_alloc | apply Kd.R_drewN | apply Kd.R_drew)); exact Kd.R_mono (Kd.R_far (p := ⟨gb240, 4, none⟩) (Kd.R_far (p := ⟨gb240, 3, none⟩) (Kd.R_far (p := ⟨gb240, 2, none⟩) (Kd.R_far (p := ⟨gb240, 1, none⟩) (Kd.R_far (p := ⟨gb240, 0, none⟩) (Kd.R_types HO_243003.out BK240.out (by decide)) (fun _ hk => hk.2) (.int .i64 (wrap64 (1 + (Int.tmod (wrap64 (rd l0 0)) 4))))) (fun _ hk => hk.2) (.string x243001_2)) (fun _ hk => hk.2) (.slice Ao80 x243002_2.length co80)) (fun _ hk => hk.2) (.slice Ao81 x243003_2.length co81)) (fun _ hk => hk.2) (.int .i64 x243004_6)) (fun _ hk => trivial), (q8f57_ HB.out GE240.out GE242.out)⟩
           ·rw [if_neg c76] at H
            have c76b0 : ((wrap64 (1 + (Int.tmod (wrap64 (rd l0 0)) 4))) == 1) = false := beq_eq_false_iff_ne.mpr c76
            have c76b1 : ((wrap64 (1 + (Int.tmod (wrap64 (rd l0 0)) 4))) != 1) = true := bne_iff_ne.mpr c76
            by_cases c82 : 0 < (l0.length : Int)
            ·rw [if_pos c82] at H
             have c82b0 : decide (0 < (l0.length : Int)) = true := decide_eq_true c82
             have c82b1 : decide (0 < l0.length) = true := decide_eq_true (by omega)
             clear c82
             replace H := Option.bind_eq_some_iff.mp H
             obtain ⟨t244, A830, H⟩ := H
             replace H : (some (1, t244, ([] : List (S29)), ([] : List ByteArray), x243004_6)) = some (r1, r2, r3, r4, r5) := H
             have A83 := Aside0.mk A830
             clear A830
             simp only [Option.some.injEq, Prod.mk.injEq] at H
             obtain ⟨rfl, rfl, rfl, rfl, rfl⟩ := H
             have hnb84 := NB242_240.out
             have hnc84 := NB240_242.out
             have hcz85_0 : wc.cell? ⟨gb242, 0, none⟩ = some (.int .i64 (wrap64 (1 + (Int.tmod (wrap64 (rd l0 0)) 4)))) := (blk_cell BK242.out 0).trans rfl
             have hcz85_1 : wc.cell? ⟨gb242, 1, none⟩ = some (.string x243001_2) := (blk_cell BK242.out 1).trans rfl
             have hcz85_2 : wc.cell? ⟨gb242, 2, none⟩ = some (u243002) := (blk_cell BK242.out 2).trans rfl
             have hcz85_3 : wc.cell? ⟨gb242, 3, none⟩ = some (u243003) := (blk_cell BK242.out 3).trans rfl
             have hcz85_4 : wc.cell? ⟨gb242, 4, none⟩ = some (.int .i64 x243004_6) := (blk_cell BK242.out 4).trans rfl
             have hfz85_0 := blk_frozen BK242.out 0
             have hfz85_1 := blk_frozen BK242.out 1
             have hfz85_2 := blk_frozen BK242.out 2
             have hfz85_3 := blk_frozen BK242.out 3
             have hfz85_4 := blk_frozen BK242.out 4
             try go_wp2
             have n0_ := Aside0.mk (Kd.R_drew HO_243002.out)
             have n1_ := Aside0.mk (Kd.R_drew HO_243003.out)
             have n2_ := Aside0.mk (blk_drew BK240.out)
             have n3_ := Aside0.mk (blk_drew BK242.out)
             have n4_ := Aside0.mk (below_drew1 HB.out)
             clear HO_243002
             clear HO_243003
             clear BK240
             clear BK242
             clear HB
             have HO_243002 := n0_
             have HO_243003 := n1_
             have BK240 := n2_
             have BK242 := n3_
             have HB := n4_
             clear n0_ n1_ n2_ n3_ n4_
             have p243 : 0 ≤ (0 : Int) := (by omega)
             have q243 : 0 < (l0.length : Int) := of_decide_eq_true (by first | (with_reducible assumption) | assumption)
             obtain ⟨ad243, e243, hx243_0⟩ := Kd.at_int HR0.out 0 p243 q243
             have hw243_0 := hx243_0
             (try rw [show ((0 : Int)).toNat = 0 from rfl] at hw243_0)
             (try rw [show 0 * 1 = 0 from rfl] at hw243_0)
             (try rw [Addr.add_zero'] at hw243_0)
             obtain rfl : ad241 = ad243 := (by injection e243)
             have qi243 : (0 < l0.length) = True := eq_true (by omega)
             (try rw [show ((0 : Int)).toNat = 0 from rfl] at hx243_0)
             (try rw [Addr.add_zero'] at hx243_0)
             replace hx243_0 := (HB.out.cell (World.block_lt_of_cell? w _ hx243_0)).trans hx243_0
             replace p243 := eq_true p243
             replace q243 := eq_true q243
             refine start_ (n := 9) (S := fun w' => w'.cell? ⟨gb242, 0, none⟩ = some (.int .i64 (wrap64 (1 + (Int.tmod (wrap64 (rd l0 0)) 4)))) ∧ w'.cell? ⟨gb242, 1, none⟩ = some (.string x243001_2) ∧ w'.cell? ⟨gb242, 2, none⟩ = some (u243002) ∧ w'.cell? ⟨gb242, 3, none⟩ = some (u243003) ∧ w'.cell? ⟨gb242, 4, none⟩ = some (.int .i64 x243004_6) ∧ w'.cell? ad241 = some (.int .u8 (rd l0 0))) (ds := []) (ml_ 9 0) (by kernel_rfl) rfl rfl ⟨(blk_cell BK242.out 0).trans rfl, (blk_cell BK242.out 1).trans rfl, (blk_cell BK242.out 2).trans rfl, (blk_cell BK242.out 3).trans rfl, (blk_cell BK242.out 4).trans rfl, ((HB.out.cell (World.block_lt_of_cell? w _ hw243_0)).trans hw243_0)⟩ (fun hHeld => ?_); refine with_tabW caravanlaw5_Make.tab19 caravanlaw5_Make.bits19 (fun HT_ HW_ => ?_)
             generalize wc.drew = w86 at HO_243002 HO_243003 BK240 BK242 HB hx243_0 hHeld ⊢
             refine pA_ 0 95 (ml_ 9 1) rfl rfl HT_.out ?_
             refine pA_ 1 96 (ml_ 9 3) rfl rfl HT_.out ?_
             refine pA_ 5 100 (ml_ 9 35) rfl rfl HT_.out ?_
             refine t6_ 2 97 (ml_ 9 39) rfl rfl HT_.out HW_.out hHeld ?_
             refine pA_ 3 98 (ml_ 9 47) rfl rfl HT_.out ?_
             refine t6_ 6 101 (ml_ 9 111) rfl rfl HT_.out HW_.out hHeld ?_
             refine one_ (i := 4) (N := some 99) (ml_ 9 127) rfl rfl (one_of HT_.out (by kernel_rfl)) (by decide) (fun K hK => ?_)
             refine goes_ Try.func8 (by kernel_rfl) rfl #[.int .i64 (wrap64 (rd l0 0))] (by rfl) rfl rfl qM_ ?_
             with_reducible refine (caravanref1_Digits.calls kj14 (wrap64 (rd l0 0)) t244 _ A83.out).mono ?_
             rintro e w87 ⟨rfl, hb⟩
             refine ⟨_, rfl, ?_⟩
             have n0_ := Aside0.mk (Kd.R_below (q8524_ HO_243002.out) hb)
             have n1_ := Aside0.mk (Kd.R_below (q8524_ HO_243003.out) hb)
             have n2_ := Aside0.mk (blk_below (g := gb240) (o := .cells #[.int .i64 0, .string (⟨#[]⟩ : ByteArray), .slice none 0 0, .slice none 0 0, .int .i64 0] 26 (0, 0)) (q1466_ BK240.out) hb)
             have n3_ := Aside0.mk (blk_below (g := gb242) (o := .cells #[.int .i64 (wrap64 (1 + (Int.tmod (wrap64 (rd l0 0)) 4))), .string x243001_2, u243002, u243003, .int .i64 x243004_6] 26 (0, 0)) (q1466_ BK242.out) hb)
             have n4_ := Aside0.mk (below_step (q8f57_ HB.out GE240.out GE242.out) hb)
             clear HO_243002
             clear HO_243003
             clear BK240
             clear BK242
             clear HB
             have HO_243002 := n0_
             have HO_243003 := n1_
             have BK240 := n2_
             have BK242 := n3_
             have HB := n4_
             clear n0_ n1_ n2_ n3_ n4_
             (try clear hb)
             (try clear hb2)
             (try clear hk)
             (try clear hi)
             refine hK.out _ _ ⟨(blk_cell BK242.out 0).trans rfl, (blk_cell BK242.out 1).trans rfl, (blk_cell BK242.out 2).trans rfl, (blk_cell BK242.out 3).trans rfl, (blk_cell BK242.out 4).trans rfl, ((HB.out.cell (World.block_lt_of_cell? w _ hw243_0)).trans hw243_0)⟩ (fun hHeld => ?_)
             clear hK K
             refine nA_ 99 ?_
             refine pA_ 7 102 (ml_ 9 255) rfl rfl HT_.out ?_
             refine one_ (i := 8) (N := none) (ml_ 9 511) rfl rfl (one_of HT_.out (by kernel_rfl)) (by decide) (fun K hK => ?_)
             have hs88 : w87.cell? ⟨gb240, 0, none⟩ = some (.int .i64 0) := (blk_cell BK240.out 0).trans rfl
             have hfs88 := blk_frozen BK240.out 0
             have hns88_1 := NB242_240.out
             have hms88_1 := NB240_242.out
             have hs89 : w87.cell? ⟨gb240, 1, none⟩ = some (.string (⟨#[]⟩ : ByteArray)) := (blk_cell BK240.out 1).trans rfl
             have hfs89 := blk_frozen BK240.out 1
             have hns89_1 := NB242_240.out
             have hms89_1 := NB240_242.out
             have hs90 : w87.cell? ⟨gb240, 2, none⟩ = some (.slice none 0 0) := (blk_cell BK240.out 2).trans rfl
             have hfs90 := blk_frozen BK240.out 2
             have hns90_1 := NB242_240.out
             have hms90_1 := NB240_242.out
             have hs91 : w87.cell? ⟨gb240, 3, none⟩ = some (.slice none 0 0) := (blk_cell BK240.out 3).trans rfl
             have hfs91 := blk_frozen BK240.out 3
             have hns91_1 := NB242_240.out
             have hms91_1 := NB240_242.out
             have hs92 : w87.cell? ⟨gb240, 4, none⟩ = some (.int .i64 0) := (blk_cell BK240.out 4).trans rfl
             have hfs92 := blk_frozen BK240.out 4
             have hns92_1 := NB242_240.out
             have hms92_1 := NB240_242.out
             refine skip_ (w1 := ?_) (by rfl) rfl ?_ ?_
             rotate_left
             ·go_simp
              rfl
             refine hK.out _ _ ⟨((cell_far (p := ⟨gb240, _, none⟩) NB242_240.out _).trans (((cell_far (p := ⟨gb240, _, none⟩) NB242_240.out _).trans (((cell_far (p := ⟨gb240, _, none⟩) NB242_240.out _).trans (((cell_far (p := ⟨gb240, _, none⟩) NB242_240.out _).trans (((cell_far (p := ⟨gb240, _, none⟩) NB242_240.out _).trans (hHeld.1)))))))))), ((cell_far (p := ⟨gb240, _, none⟩) NB242_240.out _).trans (((cell_far (p := ⟨gb240, _, none⟩) NB242_240.out _).trans (((cell_far (p := ⟨gb240, _, none⟩) NB242_240.out _).trans (((cell_far (p := ⟨gb240, _, none⟩) NB242_240.out _).trans (((cell_far (p := ⟨gb240, _, none⟩) NB242_240.out _).trans (hHeld.2.1)))))))))), ((cell_far (p := ⟨gb240, _, none⟩) NB242_240.out _).trans (((cell_far (p := ⟨gb240, _, none⟩) NB242_240.out _).trans (((cell_far (p := ⟨gb240, _, none⟩) NB242_240.out _).trans (((cell_far (p := ⟨gb240, _, none⟩) NB242_240.out _).trans (((cell_far (p := ⟨gb240, _, none⟩) NB242_240.out _).trans (hHeld.2.2.1)))))))))), ((cell_far (p := ⟨gb240, _, none⟩) NB242_240.out _).trans (((cell_far (p := ⟨gb240, _, none⟩) NB242_240.out _).trans (((cell_far (p := ⟨gb240, _, none⟩) NB242_240.out _).trans (((cell_far (p := ⟨gb240, _, none⟩) NB242_240.out _).trans (((cell_far (p := ⟨gb240, _, none⟩) NB242_240.out _).trans (hHeld.2.2.2.1)))))))))), ((cell_far (p := ⟨gb240, _, none⟩) NB242_240.out _).trans (((cell_far (p := ⟨gb240, _, none⟩) NB242_240.out _).trans (((cell_far (p := ⟨gb240, _, none⟩) NB242_240.out _).trans (((cell_far (p := ⟨gb240, _, none⟩) NB242_240.out _).trans (((cell_far (p := ⟨gb240, _, none⟩) NB242_240.out _).trans (hHeld.2.2.2.2.1)))))))))), ((cell_far (p := ⟨gb240, _, none⟩) (q5600_ GW240.out) _).trans (((cell_far (p := ⟨gb240, _, none⟩) (q5600_ GW240.out) _).trans (((cell_far (p := ⟨gb240, _, none⟩) (q5600_ GW240.out) _).trans (((cell_far (p := ⟨gb240, _, none⟩) (q5600_ GW240.out) _).trans (((cell_far (p := ⟨gb240, _, none⟩) (q5600_ GW240.out) _).trans (hHeld.2.2.2.2.2))))))))))⟩ (fun hHeld => ?_)
             clear hK K
             refine done_ (done_of HT_.out (by kernel_rfl)) ?_
             try go_wp2
             refine bodyPost_ret (results_cell_row rfl _ _ gb240 26 #[.int .i64 1, .string t244, .slice none 0 0, .slice none 0 0, .int .i64 x243004_6] (0, 0) _ rfl (by (with_reducible repeat (first | refine blk_drewN ?_ _ | refine blk_drew ?_ | refine blk_alloc ?_ _)); refine blk_put (cs := #[.int .i64 1, .string t244, .slice none 0 0, .slice none 0 0, .int .i64 0]) ?_ 4 _ rfl; (with_reducible repeat (first | refine blk_drewN ?_ _ | refine blk_drew ?_ | refine blk_alloc ?_ _)); refine blk_put (cs := #[.int .i64 1, .string t244, .slice none 0 0, .slice none 0 0, .int .i64 0]) ?_ 3 _ rfl; (with_reducible repeat (first | refine blk_drewN ?_ _ | refine blk_drew ?_ | refine blk_alloc ?_ _)); refine blk_put (cs := #[.int .i64 1, .string t244, .slice none 0 0, .slice none 0 0, .int .i64 0]) ?_ 2 _ rfl; (with_reducible repeat (first | refine blk_drewN ?_ _ | refine blk_drew ?_ | refine blk_alloc ?_ _)); refine blk_put (cs := #[.int .i64 1, .string (⟨#[]⟩ : ByteArray), .slice none 0 0, .slice none 0 0, .int .i64 0]) ?_ 1 _ rfl; (with_reducible repeat (first | refine blk_drewN ?_ _ | refine blk_drew ?_ | refine blk_alloc ?_ _)); refine blk_put (cs := #[.int .i64 0, .string (⟨#[]⟩ : ByteArray), .slice none 0 0, .slice none 0 0, .int .i64 0]) ?_ 0 _ rfl; (with_reducible repeat (first | refine blk_drewN ?_ _ | refine blk_drew ?_ | refine blk_alloc ?_ _)); exact BK240.out) Try.underlying26 rfl (by kernel_rfl)) rfl ?_
             exact ⟨_, _, by first | rfl | (simp [errW_none, errW_some] <;> rfl) | (simp [*, errW_none, errW_some] <;> rfl), by first | exact Kd.R_nil _ _ _ _ _ | exact Kd.N_nil _ _ _ _ _ | exact Kd.V_nil _ _ _ _ _ | exact Kd.Q_nil _ _ _ _ _ | exact Kd.S_nil _ _ _ _ _, by first | exact Kd.R_nil _ _ _ _ _ | exact Kd.N_nil _ _ _ _ _ | exact Kd.V_nil _ _ _ _ _ | exact Kd.Q_nil _ _ _ _ _ | exact Kd.S_nil _ _ _ _ _, (q8f57_ HB.out GE240.out GE242.out)⟩
            ·rw [if_neg c82] at H
             exact absurd H (by simp)
          ·rw [if_neg c75] at H
           have c75b0 : ((l0.length : Int) == 1) = false := beq_eq_false_iff_ne.mpr c75
           have c75b1 : ((l0.length : Int) != 1) = true := bne_iff_ne.mpr c75
           simp only [Option.some.injEq, Prod.mk.injEq] at H
           obtain ⟨rfl, rfl, rfl, rfl, rfl⟩ := H
           have hnb93 := NB242_240.out
           have hnc93 := NB240_242.out
           have hcz94_0 : wc.cell? ⟨gb242, 0, none⟩ = some (.int .i64 (wrap64 (1 + (Int.tmod (wrap64 (rd l0 0)) 4)))) := (blk_cell BK242.out 0).trans rfl
           have hcz94_1 : wc.cell? ⟨gb242, 1, none⟩ = some (.string x243001_2) := (blk_cell BK242.out 1).trans rfl
           have hcz94_2 : wc.cell? ⟨gb242, 2, none⟩ = some (u243002) := (blk_cell BK242.out 2).trans rfl
           have hcz94_3 : wc.cell? ⟨gb242, 3, none⟩ = some (u243003) := (blk_cell BK242.out 3).trans rfl
           have hcz94_4 : wc.cell? ⟨gb242, 4, none⟩ = some (.int .i64 x243004_6) := (blk_cell BK242.out 4).trans rfl
           have hfz94_0 := blk_frozen BK242.out 0
           have hfz94_1 := blk_frozen BK242.out 1
           have hfz94_2 := blk_frozen BK242.out 2
           have hfz94_3 := blk_frozen BK242.out 3
           have hfz94_4 := blk_frozen BK242.out 4
           have hcz95_0 : wc.cell? ⟨gb240, 0, none⟩ = some (.int .i64 0) := (blk_cell BK240.out 0).trans rfl
           have hcz95_1 : wc.cell? ⟨gb240, 1, none⟩ = some (.string (⟨#[]⟩ : ByteArray)) := (blk_cell BK240.out 1).trans rfl
           have hcz95_2 : wc.cell? ⟨gb240, 2, none⟩ = some (.slice none 0 0) := (blk_cell BK240.out 2).trans rfl
           have hcz95_3 : wc.cell? ⟨gb240, 3, none⟩ = some (.slice none 0 0) := (blk_cell BK240.out 3).trans rfl
           have hcz95_4 : wc.cell? ⟨gb240, 4, none⟩ = some (.int .i64 0) := (blk_cell BK240.out 4).trans rfl
           have hfz95_0 := blk_frozen BK240.out 0
           have hfz95_1 := blk_frozen BK240.out 1
           have hfz95_2 := blk_frozen BK240.out 2
           have hfz95_3 := blk_frozen BK240.out 3
           have hfz95_4 := blk_frozen BK240.out 4
           obtain ⟨Ao96, co96, eo96⟩ := Kd.R_slice HO_243002.out
           subst eo96
           obtain ⟨Ao97, co97, eo97⟩ := Kd.R_slice HO_243003.out
           subst eo97
           go_wp2
           refine bodyPost_ret (results_cell_row rfl _ _ gb240 26 #[.int .i64 (wrap64 (1 + (Int.tmod (wrap64 (rd l0 0)) 4))), .string x243001_2, .slice Ao96 x243002_2.length co96, .slice Ao97 x243003_2.length co97, .int .i64 x243004_6] (0, 0) _ rfl (by (with_reducible repeat (first | refine blk_drewN ?_ _ | refine blk_drew ?_ | refine blk_alloc ?_ _)); refine blk_put (cs := #[.int .i64 (wrap64 (1 + (Int.tmod (wrap64 (rd l0 0)) 4))), .string x243001_2, .slice Ao96 x243002_2.length co96, .slice Ao97 x243003_2.length co97, .int .i64 0]) ?_ 4 _ rfl; (with_reducible repeat (first | refine blk_drewN ?_ _ | refine blk_drew ?_ | refine blk_alloc ?_ _)); refine blk_put (cs := #[.int .i64 (wrap64 (1 + (Int.tmod (wrap64 (rd l0 0)) 4))), .string x243001_2, .slice Ao96 x243002_2.length co96, .slice none 0 0, .int .i64 0]) ?_ 3 _ rfl; (with_reducible repeat (first | refine blk_drewN ?_ _ | refine blk_drew ?_ | refine blk_alloc ?_ _)); refine blk_put (cs := #[.int .i64 (wrap64 (1 + (Int.tmod (wrap64 (rd l0 0)) 4))), .string x243001_2, .slice none 0 0, .slice none 0 0, .int .i64 0]) ?_ 2 _ rfl; (with_reducible repeat (first | refine blk_drewN ?_ _ | refine blk_drew ?_ | refine blk_alloc ?_ _)); refine blk_put (cs := #[.int .i64 (wrap64 (1 + (Int.tmod (wrap64 (rd l0 0)) 4))), .string (⟨#[]⟩ : ByteArray), .slice none 0 0, .slice none 0 0, .int .i64 0]) ?_ 1 _ rfl; (with_reducible repeat (first | refine blk_drewN ?_ _ | refine blk_drew ?_ | refine blk_alloc ?_ _)); refine blk_put (cs := #[.int .i64 0, .string (⟨#[]⟩ : ByteArray), .slice none 0 0, .slice none 0 0, .int .i64 0]) ?_ 0 _ rfl; (with_reducible repeat (first | refine blk_drewN ?_ _ | refine blk_drew ?_ | refine blk_alloc ?_ _)); exact BK240.out) Try.underlying26 rfl (by kernel_rfl)) rfl ?_
           exact ⟨_, _, by first | rfl | (simp [errW_none, errW_some] <;> rfl) | (simp [*, errW_none, errW_some] <;> rfl), by (with_reducible repeat (first | apply Kd.R_alloc | apply Kd.R_drewN | apply Kd.R_drew)); exact Kd.R_mono (Kd.R_far (p := ⟨gb240, 4, none⟩) (Kd.R_far (p := ⟨gb240, 3, none⟩) (Kd.R_far (p := ⟨gb240, 2, none⟩) (Kd.R_far (p := ⟨gb240, 1, none⟩) (Kd.R_far (p := ⟨gb240, 0, none⟩) (Kd.R_types HO_243002.out BK240.out (by decide)) (fun _ hk => hk.2) (.int .i64 (wrap64 (1 + (Int.tmod (wrap64 (rd l0 0)) 4))))) (fun _ hk => hk.2) (.string x243001_2)) (fun _ hk => hk.2) (.slice Ao96 x243002_2.length co96)) (fun _ hk => hk.2) (.slice Ao97 x243003_2.length co97)) (fun _ hk => hk.2) (.int .i64 x243004_6)) (fun _ hk => trivial), by (with_reducible repeat (first | apply Kd.R_alloc | apply Kd.R_drewN | apply Kd.R_drew)); exact Kd.R_mono (Kd.R_far (p := ⟨gb240, 4, none⟩) (Kd.R_far (p := ⟨gb240, 3, none⟩) (Kd.R_far (p := ⟨gb240, 2, none⟩) (Kd.R_far (p := ⟨gb240, 1, none⟩) (Kd.R_far (p := ⟨gb240, 0, none⟩) (Kd.R_types HO_243003.out BK240.out (by decide)) (fun _ hk => hk.2) (.int .i64 (wrap64 (1 + (Int.tmod (wrap64 (rd l0 0)) 4))))) (fun _ hk => hk.2) (.string x243001_2)) (fun _ hk => hk.2) (.slice Ao96 x243002_2.length co96)) (fun _ hk => hk.2) (.slice Ao97 x243003_2.length co97)) (fun _ hk => hk.2) (.int .i64 x243004_6)) (fun _ hk => trivial), (q8f57_ HB.out GE240.out GE242.out)⟩
  ·rw [if_neg c6] at H
   exact absurd H (by simp)

end Go.Proofs.Ytbmimcpllpgcaaa.G
