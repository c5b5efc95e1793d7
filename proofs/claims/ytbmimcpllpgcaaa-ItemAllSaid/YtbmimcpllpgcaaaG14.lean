/- What functions of the translation come to, and their calls' proofs; by a program of mine over the kit's print, with contracts given by hand beside. Conditions: where a plain function tells none, nothing is said. -/
import Derived.Test.YtbmimcpllpgcaaaG0
import Derived.Test.YtbmimcpllpgcaaaG2
import Derived.Test.YtbmimcpllpgcaaaG3
import Derived.Test.YtbmimcpllpgcaaaG5
import Derived.Test.YtbmimcpllpgcaaaG9
import Derived.Test.YtbmimcpllpgcaaaG11
import Derived.Test.YtbmimcpllpgcaaaG13
import Derived.Test.YtbmimcpllpgcaaaGMay
namespace Go.Proofs.Ytbmimcpllpgcaaa.G
open Go.RowKit Go.Proofs.YtbmimcpllpgcaaaW.PrintWords Go.Proofs.YtbmimcpllpgcaaaW.PrintLast Go.Proofs.YtbmimcpllpgcaaaW.PrintMore
attribute [local go_sem] max2_int min2_int max_two min_two max_three min_three max_four min_four   -- for this text's walks alone
set_option linter.unusedVariables false
set_option linter.unusedSimpArgs false

/-! ### caravanlaw5_ItemAll: function 5 -/
def caravanlaw5_ItemAll.j0 : Nat → Int → Bool → Int → ByteArray → List (S29) → List ByteArray → Int → Int → ByteArray → List (S29) → List ByteArray → Int → Option (Bool)
 | 0, _, _, _, _, _, _, _, _, _, _, _, _ => none
 | k + 1, x2, x12, x368000, x368001, x368002, x368003, x368004, x369000, x369001, x369002, x369003, x369004 => if x12 = true then ((caravanlaw5_awake.f k).bind fun t371 => (some t371)) else ((item_May.f x368000 x368001 x368002 x368003 x368004).bind fun t372 => ((caravanref5_MayItem.f k x368000 x368001 x368002 x368003 x368004).bind fun t373 => (if (t372 == t373) = true then ((item_Alive.f x368000 x368001 x368002 x368003 x368004 x2).bind fun t374 => ((caravanref5_Alive.f x368000 x368001 x368002 x368003 x368004 x2).bind fun t375 => (if (t374 == t375) = true then ((item_Type.f x368000 x368001 x368002 x368003 x368004).bind fun t376 => ((caravanref5_Type.f x368000 x368001 x368002 x368003 x368004).bind fun t377 => (if t376.toList = t377.toList then ((item_Same.f k x368000 x368001 x368002 x368003 x368004 x369000 x369001 x369002 x369003 x369004).bind fun t378 => ((caravanref5_SameItem.f k x368000 x368001 x368002 x368003 x368004 x369000 x369001 x369002 x369003 x369004).bind fun t379 => (if (t378 == t379) = true then ((item_Copy.f x368000 x368001 x368002 x368003 x368004).bind fun bt380 => ((caravanref5_SameItem.f k bt380.1 bt380.2.1 bt380.2.2.1 bt380.2.2.2.1 bt380.2.2.2.2 x368000 x368001 x368002 x368003 x368004).bind fun t389 => (if t389 = true then ((caravanlaw5_awake.f k).bind fun t390 => (some t390)) else (some false)))) else (some false)))) else (some false)))) else (some false)))) else (some false))))
def caravanlaw5_ItemAll.f (k : Nat) (a0_0 : Int) (a0_1 : ByteArray) (l0_2 : List (S29)) (l0_3 : List ByteArray) (a0_4 : Int) (a1_0 : Int) (a1_1 : ByteArray) (l1_2 : List (S29)) (l1_3 : List ByteArray) (a1_4 : Int) (a2 : Int) : Option (Bool) := (caravanlaw5_Great.f k a0_0 a0_1 l0_2 l0_3 a0_4).bind fun t369 => (if t369 = true then (caravanlaw5_ItemAll.j0 k a2 true a0_0 a0_1 l0_2 l0_3 a0_4 a1_0 a1_1 l1_2 l1_3 a1_4) else ((caravanlaw5_Great.f k a1_0 a1_1 l1_2 l1_3 a1_4).bind fun t370 => (caravanlaw5_ItemAll.j0 k a2 t370 a0_0 a0_1 l0_2 l0_3 a0_4 a1_0 a1_1 l1_2 l1_3 a1_4)))
theorem caravanlaw5_ItemAll.mono_l : ∀ k, (∀ y0 y1 y2 y3 y4 y5 y6 y7 y8 y9 y10 y11, LeO (caravanlaw5_ItemAll.j0 k y0 y1 y2 y3 y4 y5 y6 y7 y8 y9 y10 y11) (caravanlaw5_ItemAll.j0 (k + 1) y0 y1 y2 y3 y4 y5 y6 y7 y8 y9 y10 y11))
 | 0 => fun _ _ _ _ _ _ _ _ _ _ _ _ r h => by simp [caravanlaw5_ItemAll.j0] at h
 | k + 1 => by
  have ih0 := caravanlaw5_ItemAll.mono_l k
  ·intro y0 y1 y2 y3 y4 y5 y6 y7 y8 y9 y10 y11
   unfold caravanlaw5_ItemAll.j0
   repeat' first
   | (with_reducible exact ih0 _ _ _ _ _ _ _ _ _ _ _ _)
   | (with_reducible exact caravanlaw5_Great.mono _ _ _ _ _ _)
   | (with_reducible exact caravanlaw5_awake.mono _)
   | (with_reducible exact caravanref5_MayItem.mono _ _ _ _ _ _)
   | (with_reducible exact caravanref5_SameItem.mono _ _ _ _ _ _ _ _ _ _ _)
   | (with_reducible exact item_Same.mono _ _ _ _ _ _ _ _ _ _ _)
   | (with_reducible exact LeO.refl _)
   | (with_reducible exact LeO.none _)
   | (with_reducible refine LeO.ite ?_ ?_)
   | (with_reducible refine LeO.bind ?_ (fun _ => ?_))
   | exact ih0 _ _ _ _ _ _ _ _ _ _ _ _
   | exact caravanlaw5_Great.mono _ _ _ _ _ _
   | exact caravanlaw5_awake.mono _
   | exact caravanref5_MayItem.mono _ _ _ _ _ _
   | exact caravanref5_SameItem.mono _ _ _ _ _ _ _ _ _ _ _
   | exact item_Same.mono _ _ _ _ _ _ _ _ _ _ _
   | exact LeO.none _
   | refine LeO.ite ?_ ?_
   | refine LeO.bind ?_ (fun _ => ?_)
theorem caravanlaw5_ItemAll.mono : ∀ a0 a1 a2 a3 a4 a5 a6 a7 a8 a9 a10 k, LeO (caravanlaw5_ItemAll.f k a0 a1 a2 a3 a4 a5 a6 a7 a8 a9 a10) (caravanlaw5_ItemAll.f (k + 1) a0 a1 a2 a3 a4 a5 a6 a7 a8 a9 a10) := by
 intro a0 a1 a2 a3 a4 a5 a6 a7 a8 a9 a10 k
 have ih0 := caravanlaw5_ItemAll.mono_l k
 unfold caravanlaw5_ItemAll.f
 repeat' first
  | (with_reducible exact ih0 _ _ _ _ _ _ _ _ _ _ _ _)
  | (with_reducible exact caravanlaw5_Great.mono _ _ _ _ _ _)
  | (with_reducible exact caravanlaw5_awake.mono _)
  | (with_reducible exact caravanref5_MayItem.mono _ _ _ _ _ _)
  | (with_reducible exact caravanref5_SameItem.mono _ _ _ _ _ _ _ _ _ _ _)
  | (with_reducible exact item_Same.mono _ _ _ _ _ _ _ _ _ _ _)
  | (with_reducible exact LeO.refl _)
  | (with_reducible exact LeO.none _)
  | (with_reducible refine LeO.ite ?_ ?_)
  | (with_reducible refine LeO.bind ?_ (fun _ => ?_))
  | exact ih0 _ _ _ _ _ _ _ _ _ _ _ _
  | exact caravanlaw5_Great.mono _ _ _ _ _ _
  | exact caravanlaw5_awake.mono _
  | exact caravanref5_MayItem.mono _ _ _ _ _ _
  | exact caravanref5_SameItem.mono _ _ _ _ _ _ _ _ _ _ _
  | exact item_Same.mono _ _ _ _ _ _ _ _ _ _ _
  | exact LeO.none _
  | refine LeO.ite ?_ ?_
  | refine LeO.bind ?_ (fun _ => ?_)
def caravanlaw5_ItemAll.T3 : Bool × List (List Nat × List Nat) := (true, [([], []), ([0], [0]), ([], []), ([2, 1], [2]), ([1, 3], [1, 3]), ([4, 3], [4]), ([5], [5]), ([5], [5]), ([6, 7, 5, 5], [5, 6, 7]), ([5], [5]), ([5], [5]), ([9, 10, 8, 5], [5, 9, 10]), ([8, 11, 5], [5, 8, 11]), ([5, 12], [5, 12]), ([13, 11], [13]), ([14], [14]), ([15, 14, 14], [14, 15]), ([14], [14]), ([17, 16, 14], [14, 17]), ([16, 18, 14], [14, 16, 18]), ([14, 19], [14, 19]), ([20, 18], [20]), ([21], [21]), ([21], [21]), ([22, 23, 21, 21], [21, 22, 23]), ([21], [21]), ([21], [21]), ([25, 26, 24, 21], [21, 25, 26]), ([24, 27, 21], [21, 24, 27]), ([21, 28], [21, 28]), ([29, 27], [29]), ([30], [30]), ([31, 30, 30], [30, 31]), ([30], [30]), ([32, 33, 32, 30], [30, 32, 33]), ([30, 34], [30, 34]), ([35, 34], [35]), ([36, 36], [36]), ([36, 37], [36, 37]), ([38, 37, 0, 1, 2, 3, 4, 5, 6, 7, 8, 9, 10, 11, 12, 13, 14, 15, 16, 17, 18, 19, 20, 21, 22, 23, 24, 25, 26, 27, 28, 29, 30, 31, 32, 33, 34, 35, 36, 37, 38], [38])])
def caravanlaw5_ItemAll.B3 : List Nat := [0, 1, 0, 7, 15, 31, 63, 63, 255, 63, 63, 2047, 4095, 8191, 16383, 32767, 65535, 32767, 262143, 524287, 1048575, 2097151, 4194303, 4194303, 16777215, 4194303, 4194303, 134217727, 268435455, 536870911, 1073741823, 2147483647, 4294967295, 2147483647, 17179869183, 34359738367, 68719476735, 137438953471, 274877906943, 549755813887]
theorem caravanlaw5_ItemAll.tab3 : rtab .any (opsOf Try.f5 3) = caravanlaw5_ItemAll.T3 := by kernel_rfl
theorem caravanlaw5_ItemAll.bits3 : waitsOk caravanlaw5_ItemAll.T3.2 caravanlaw5_ItemAll.B3 = true := by kernel_rfl
set_option maxHeartbeats 8000000 in
set_option maxRecDepth 100000 in
theorem caravanlaw5_ItemAll.calls (k : Nat) (a0_0 : Int) (a0_1 : ByteArray) (A0_2 : Option Addr) (c0_2 : Nat) (l0_2 : List (S29)) (A0_3 : Option Addr) (c0_3 : Nat) (l0_3 : List ByteArray) (a0_4 : Int) (a1_0 : Int) (a1_1 : ByteArray) (A1_2 : Option Addr) (c1_2 : Nat) (l1_2 : List (S29)) (A1_3 : Option Addr) (c1_3 : Nat) (l1_3 : List ByteArray) (a1_4 : Int) (a2 : Int) (r : Bool) (w : World) (hr0_2 : Kd.C k29 w A0_2 l0_2.length l0_2) (hc0_2 : l0_2.length ≤ c0_2) (hr0_3 : Kd.C Kd.string w A0_3 l0_3.length l0_3) (hc0_3 : l0_3.length ≤ c0_3) (hr1_2 : Kd.C k29 w A1_2 l1_2.length l1_2) (hc1_2 : l1_2.length ≤ c1_2) (hr1_3 : Kd.C Kd.string w A1_3 l1_3.length l1_3) (hc1_3 : l1_3.length ≤ c1_3) (h : caravanlaw5_ItemAll.f k a0_0 a0_1 l0_2 l0_3 a0_4 a1_0 a1_1 l1_2 l1_3 a1_4 a2 = some r) :
 Calls Try.prog 5 #[.agg #[.int .i64 a0_0, .string a0_1, .slice A0_2 l0_2.length c0_2, .slice A0_3 l0_3.length c0_3, .int .i64 a0_4], .agg #[.int .i64 a1_0, .string a1_1, .slice A1_2 l1_2.length c1_2, .slice A1_3 l1_3.length c1_3, .int .i64 a1_4], .int .i64 a2] w fun e w' => e = .returned (.bool r) ∧ Below w.heap.size w w' := by
 have hu26 := Try.underlying26
 have HR0_2 := Aside0.mk hr0_2
 have HC0_2 := Aside0.mk hc0_2
 clear hr0_2 hc0_2
 have HR0_3 := Aside0.mk hr0_3
 have HC0_3 := Aside0.mk hc0_3
 clear hr0_3 hc0_3
 have HR1_2 := Aside0.mk hr1_2
 have HC1_2 := Aside0.mk hc1_2
 clear hr1_2 hc1_2
 have HR1_3 := Aside0.mk hr1_3
 have HC1_3 := Aside0.mk hc1_3
 clear hr1_3 hc1_3
 have HB := Aside0.mk (Below.refl w.heap.size w)
 have H : ((caravanlaw5_Great.f k a0_0 a0_1 l0_2 l0_3 a0_4).bind fun t369 => (if t369 = true then (caravanlaw5_ItemAll.j0 k a2 true a0_0 a0_1 l0_2 l0_3 a0_4 a1_0 a1_1 l1_2 l1_3 a1_4) else ((caravanlaw5_Great.f k a1_0 a1_1 l1_2 l1_3 a1_4).bind fun t370 => (caravanlaw5_ItemAll.j0 k a2 t370 a0_0 a0_1 l0_2 l0_3 a0_4 a1_0 a1_1 l1_2 l1_3 a1_4)))) = some r := h
 clear h
 have HC4 := Aside0.mk H
 clear H
 go_enter Try.func5, Try.ntmps5
 go_upto_region 1 with (first | ((with_reducible refine gate_dst (N := 3) rfl ?_); refine box_event ?hg (N := 3) ?hd (cs := #[.int .i64 a0_0, .string a0_1, .slice A0_2 l0_2.length c0_2, .slice A0_3 l0_3.length c0_3, .int .i64 a0_4]) (t := 26) ?hr ?_; (case hd => rfl); (case hg => rfl); (case hr => first | (go_simp; done) | (go_simp; rfl)); intro gb367 hg w5 hbox hb; have n0_ := Aside0.mk (below_step (q2_ HB.out) hb); have n1_ := Aside0.mk (hbox); have n2_ := Aside0.mk ((by rw [hg]; exact (below_size (q2_ HB.out)) : w.heap.size ≤ gb367)); have n3_ := Aside0.mk ((by rw [hg]; exact (below_size (q2_ HB.out)) : w.heap.size ≤ gb367)); clear HB; have HB := n0_; have BK367 := n1_; have GW367 := n2_; have GE367 := n3_; clear n0_ n1_ n2_ n3_; clear hb hbox hg) | ((with_reducible refine gate_dst (N := 4) rfl ?_); refine box_event ?hg (N := 4) ?hd (cs := #[.int .i64 a1_0, .string a1_1, .slice A1_2 l1_2.length c1_2, .slice A1_3 l1_3.length c1_3, .int .i64 a1_4]) (t := 26) ?hr ?_; (case hd => rfl); (case hg => rfl); (case hr => first | (go_simp; done) | (go_simp; rfl)); intro gb368 hg w6 hbox hb; have n0_ := Aside0.mk (blk_below (g := gb367) (o := .cells #[.int .i64 a0_0, .string a0_1, .slice A0_2 l0_2.length c0_2, .slice A0_3 l0_3.length c0_3, .int .i64 a0_4] 26 (0, 0)) (q3_ BK367.out) hb); have n1_ := Aside0.mk (below_step (q4_ HB.out GE367.out) hb); have n2_ := Aside0.mk (hbox); have n3_ := Aside0.mk ((by rw [hg]; exact (below_size (q4_ HB.out GE367.out)) : w.heap.size ≤ gb368)); have n4_ := Aside0.mk ((by rw [hg]; exact (below_size (q4_ HB.out GE367.out)) : w.heap.size ≤ gb368)); have n5_ := Aside0.mk ((by rw [hg]; exact Nat.ne_of_lt (blk_lt (g := gb367) (o := .cells #[.int .i64 a0_0, .string a0_1, .slice A0_2 l0_2.length c0_2, .slice A0_3 l0_3.length c0_3, .int .i64 a0_4] 26 (0, 0)) (q3_ BK367.out)) : gb367 ≠ gb368)); have n6_ := Aside0.mk ((by rw [hg]; exact Nat.ne_of_gt (blk_lt (g := gb367) (o := .cells #[.int .i64 a0_0, .string a0_1, .slice A0_2 l0_2.length c0_2, .slice A0_3 l0_3.length c0_3, .int .i64 a0_4] 26 (0, 0)) (q3_ BK367.out)) : gb368 ≠ gb367)); clear BK367; clear HB; have BK367 := n0_; have HB := n1_; have BK368 := n2_; have GW368 := n3_; have GE368 := n4_; have NB367_368 := n5_; have NB368_367 := n6_; clear n0_ n1_ n2_ n3_ n4_ n5_ n6_; clear hb hbox hg))
 (try simp only [Act.put, List.setIfInBounds_toArray, List.set_cons_zero, List.set_cons_succ])
 go_cut [12] (fun v12 wc => ∃ (kq : Nat) (x12_3 : Bool), v12 = .bool x12_3 ∧ Aside0 (caravanlaw5_ItemAll.j0 kq a2 x12_3 a0_0 a0_1 l0_2 l0_3 a0_4 a1_0 a1_1 l1_2 l1_3 a1_4 = some r) ∧ Aside0 (kq ≤ k) ∧ Aside0 (wc.heap[gb367]? = some (.cells #[.int .i64 a0_0, .string a0_1, (.slice A0_2 l0_2.length c0_2), (.slice A0_3 l0_3.length c0_3), .int .i64 a0_4] 26 (0, 0))) ∧ Aside0 (wc.heap[gb368]? = some (.cells #[.int .i64 a1_0, .string a1_1, (.slice A1_2 l1_2.length c1_2), (.slice A1_3 l1_3.length c1_3), .int .i64 a1_4] 26 (0, 0))) ∧ Aside0 (Below w.heap.size w wc))
 case first =>
  have H := HC4.out
  clear HC4
  replace H := Option.bind_eq_some_iff.mp H
  obtain ⟨t369, A70, H⟩ := H
  replace H : (if t369 = true then (caravanlaw5_ItemAll.j0 k a2 true a0_0 a0_1 l0_2 l0_3 a0_4 a1_0 a1_1 l1_2 l1_3 a1_4) else ((caravanlaw5_Great.f k a1_0 a1_1 l1_2 l1_3 a1_4).bind fun t370 => (caravanlaw5_ItemAll.j0 k a2 t370 a0_0 a0_1 l0_2 l0_3 a0_4 a1_0 a1_1 l1_2 l1_3 a1_4))) = some r := H
  have A7 := Aside0.mk A70
  clear A70
  by_cases c8 : t369 = true
  ·subst c8
   have H1 : (caravanlaw5_ItemAll.j0 k a2 true a0_0 a0_1 l0_2 l0_3 a0_4 a1_0 a1_1 l1_2 l1_3 a1_4) = some r := by rw [if_pos rfl] at H; exact H
   clear H
   have H := H1
   clear H1
   have H' := Aside0.mk H
   clear H
   have hnb9 := NB367_368.out
   have hnc9 := NB368_367.out
   have hcz10_0 : w6.cell? ⟨gb367, 0, none⟩ = some (.int .i64 a0_0) := (blk_cell BK367.out 0).trans rfl
   have hcz10_1 : w6.cell? ⟨gb367, 1, none⟩ = some (.string a0_1) := (blk_cell BK367.out 1).trans rfl
   have hcz10_2 : w6.cell? ⟨gb367, 2, none⟩ = some (.slice A0_2 l0_2.length c0_2) := (blk_cell BK367.out 2).trans rfl
   have hcz10_3 : w6.cell? ⟨gb367, 3, none⟩ = some (.slice A0_3 l0_3.length c0_3) := (blk_cell BK367.out 3).trans rfl
   have hcz10_4 : w6.cell? ⟨gb367, 4, none⟩ = some (.int .i64 a0_4) := (blk_cell BK367.out 4).trans rfl
   have hfz10_0 := blk_frozen BK367.out 0
   have hfz10_1 := blk_frozen BK367.out 1
   have hfz10_2 := blk_frozen BK367.out 2
   have hfz10_3 := blk_frozen BK367.out 3
   have hfz10_4 := blk_frozen BK367.out 4
   go_wp2_with (first | ((with_reducible refine gate_callee (f := 11) rfl ?_); refine goesL_ (some 8) rfl rfl Try.func11 (by kernel_rfl) rfl #[.agg #[.int .i64 a0_0, .string a0_1, .slice A0_2 l0_2.length c0_2, .slice A0_3 l0_3.length c0_3, .int .i64 a0_4]] rfl qM_ ?_; (with_reducible refine (caravanlaw5_Great.calls k a0_0 a0_1 _ _ l0_2 _ _ l0_3 a0_4 true _ ?side1 ?side2 ?side3 ?side4 A7.out).mono ?_); (case side1 => exact qC_ ((Kd.C_below HR0_2.out HB.out))); (case side2 => exact HC0_2.out); (case side3 => exact qC_ ((Kd.C_below HR0_3.out HB.out))); (case side4 => exact HC0_3.out); rintro e w11 ⟨rfl, hb⟩; refine ⟨_, rfl, ?_⟩; have n0_ := Aside0.mk (blk_below (g := gb367) (o := .cells #[.int .i64 a0_0, .string a0_1, .slice A0_2 l0_2.length c0_2, .slice A0_3 l0_3.length c0_3, .int .i64 a0_4] 26 (0, 0)) (q3_ BK367.out) hb); have n1_ := Aside0.mk (blk_below (g := gb368) (o := .cells #[.int .i64 a1_0, .string a1_1, .slice A1_2 l1_2.length c1_2, .slice A1_3 l1_3.length c1_3, .int .i64 a1_4] 26 (0, 0)) (q3_ BK368.out) hb); have n2_ := Aside0.mk (below_step (q5_ HB.out GE367.out GE368.out) hb); clear BK367; clear BK368; clear HB; have BK367 := n0_; have BK368 := n1_; have HB := n2_; clear n0_ n1_ n2_; (try clear hb); (try clear hb2); (try clear hk); (try clear hi)))
   go_meet
   case rel => exact ⟨_, (true), (by first | rfl | (simp; done) | (simp [*]; done)), H', ⟨by first | omega | exact Nat.le_refl _⟩, ⟨by (with_reducible repeat (first | refine blk_drewN ?_ _ | refine blk_drew ?_ | refine blk_alloc ?_ _)); exact BK367.out⟩, ⟨by (with_reducible repeat (first | refine blk_drewN ?_ _ | refine blk_drew ?_ | refine blk_alloc ?_ _)); exact BK368.out⟩, ⟨(q5_ HB.out GE367.out GE368.out)⟩⟩
  ·replace c8 := Bool.eq_false_iff.mpr c8
   subst c8
   have H1 : ((caravanlaw5_Great.f k a1_0 a1_1 l1_2 l1_3 a1_4).bind fun t370 => (caravanlaw5_ItemAll.j0 k a2 t370 a0_0 a0_1 l0_2 l0_3 a0_4 a1_0 a1_1 l1_2 l1_3 a1_4)) = some r := by rw [if_neg (show ¬ (false = true) by decide)] at H; exact H
   clear H
   have H := H1
   clear H1
   replace H := Option.bind_eq_some_iff.mp H
   obtain ⟨t370, A120, H⟩ := H
   replace H : (caravanlaw5_ItemAll.j0 k a2 t370 a0_0 a0_1 l0_2 l0_3 a0_4 a1_0 a1_1 l1_2 l1_3 a1_4) = some r := H
   have A12 := Aside0.mk A120
   clear A120
   have H' := Aside0.mk H
   clear H
   have hnb13 := NB367_368.out
   have hnc13 := NB368_367.out
   have hcz14_0 : w6.cell? ⟨gb367, 0, none⟩ = some (.int .i64 a0_0) := (blk_cell BK367.out 0).trans rfl
   have hcz14_1 : w6.cell? ⟨gb367, 1, none⟩ = some (.string a0_1) := (blk_cell BK367.out 1).trans rfl
   have hcz14_2 : w6.cell? ⟨gb367, 2, none⟩ = some (.slice A0_2 l0_2.length c0_2) := (blk_cell BK367.out 2).trans rfl
   have hcz14_3 : w6.cell? ⟨gb367, 3, none⟩ = some (.slice A0_3 l0_3.length c0_3) := (blk_cell BK367.out 3).trans rfl
   have hcz14_4 : w6.cell? ⟨gb367, 4, none⟩ = some (.int .i64 a0_4) := (blk_cell BK367.out 4).trans rfl
   have hfz14_0 := blk_frozen BK367.out 0
   have hfz14_1 := blk_frozen BK367.out 1
   have hfz14_2 := blk_frozen BK367.out 2
   have hfz14_3 := blk_frozen BK367.out 3
   have hfz14_4 := blk_frozen BK367.out 4
   go_wp2_with (first | ((with_reducible refine gate_callee (f := 11) rfl ?_); refine goesL_ (some 8) rfl rfl Try.func11 (by kernel_rfl) rfl #[.agg #[.int .i64 a0_0, .string a0_1, .slice A0_2 l0_2.length c0_2, .slice A0_3 l0_3.length c0_3, .int .i64 a0_4]] rfl qM_ ?_; (with_reducible refine (caravanlaw5_Great.calls k a0_0 a0_1 _ _ l0_2 _ _ l0_3 a0_4 false _ ?side1 ?side2 ?side3 ?side4 A7.out).mono ?_); (case side1 => exact qC_ ((Kd.C_below HR0_2.out HB.out))); (case side2 => exact HC0_2.out); (case side3 => exact qC_ ((Kd.C_below HR0_3.out HB.out))); (case side4 => exact HC0_3.out); rintro e w15 ⟨rfl, hb⟩; refine ⟨_, rfl, ?_⟩; have n0_ := Aside0.mk (blk_below (g := gb367) (o := .cells #[.int .i64 a0_0, .string a0_1, .slice A0_2 l0_2.length c0_2, .slice A0_3 l0_3.length c0_3, .int .i64 a0_4] 26 (0, 0)) (q3_ BK367.out) hb); have n1_ := Aside0.mk (blk_below (g := gb368) (o := .cells #[.int .i64 a1_0, .string a1_1, .slice A1_2 l1_2.length c1_2, .slice A1_3 l1_3.length c1_3, .int .i64 a1_4] 26 (0, 0)) (q3_ BK368.out) hb); have n2_ := Aside0.mk (below_step (q5_ HB.out GE367.out GE368.out) hb); clear BK367; clear BK368; clear HB; have BK367 := n0_; have BK368 := n1_; have HB := n2_; clear n0_ n1_ n2_; (try clear hb); (try clear hb2); (try clear hk); (try clear hi); have hcz16_0 : w15.cell? ⟨gb368, 0, none⟩ = some (.int .i64 a1_0) := (blk_cell BK368.out 0).trans rfl; have hcz16_1 : w15.cell? ⟨gb368, 1, none⟩ = some (.string a1_1) := (blk_cell BK368.out 1).trans rfl; have hcz16_2 : w15.cell? ⟨gb368, 2, none⟩ = some (.slice A1_2 l1_2.length c1_2) := (blk_cell BK368.out 2).trans rfl; have hcz16_3 : w15.cell? ⟨gb368, 3, none⟩ = some (.slice A1_3 l1_3.length c1_3) := (blk_cell BK368.out 3).trans rfl; have hcz16_4 : w15.cell? ⟨gb368, 4, none⟩ = some (.int .i64 a1_4) := (blk_cell BK368.out 4).trans rfl; have hfz16_0 := blk_frozen BK368.out 0; have hfz16_1 := blk_frozen BK368.out 1; have hfz16_2 := blk_frozen BK368.out 2; have hfz16_3 := blk_frozen BK368.out 3; have hfz16_4 := blk_frozen BK368.out 4) | (go_at_call 11; (with_reducible refine (caravanlaw5_Great.calls k a1_0 a1_1 _ _ l1_2 _ _ l1_3 a1_4 t370 _ ?side1 ?side2 ?side3 ?side4 A12.out).mono ?_); (case side1 => exact qC_ ((Kd.C_below HR1_2.out HB.out))); (case side2 => exact HC1_2.out); (case side3 => exact qC_ ((Kd.C_below HR1_3.out HB.out))); (case side4 => exact HC1_3.out); rintro e w17 ⟨rfl, hb⟩; have n0_ := Aside0.mk (blk_below (g := gb367) (o := .cells #[.int .i64 a0_0, .string a0_1, .slice A0_2 l0_2.length c0_2, .slice A0_3 l0_3.length c0_3, .int .i64 a0_4] 26 (0, 0)) (q3_ BK367.out) hb); have n1_ := Aside0.mk (blk_below (g := gb368) (o := .cells #[.int .i64 a1_0, .string a1_1, .slice A1_2 l1_2.length c1_2, .slice A1_3 l1_3.length c1_3, .int .i64 a1_4] 26 (0, 0)) (q3_ BK368.out) hb); have n2_ := Aside0.mk (below_step (q5_ HB.out GE367.out GE368.out) hb); clear BK367; clear BK368; clear HB; have BK367 := n0_; have BK368 := n1_; have HB := n2_; clear n0_ n1_ n2_; (try clear hb); (try clear hb2); (try clear hk); (try clear hi)))
   go_meet
   case rel => exact ⟨_, (t370), (by first | rfl | (simp; done) | (simp [*]; done)), H', ⟨by first | omega | exact Nat.le_refl _⟩, ⟨by (with_reducible repeat (first | refine blk_drewN ?_ _ | refine blk_drew ?_ | refine blk_alloc ?_ _)); exact BK367.out⟩, ⟨by (with_reducible repeat (first | refine blk_drewN ?_ _ | refine blk_drew ?_ | refine blk_alloc ?_ _)); exact BK368.out⟩, ⟨(q5_ HB.out GE367.out GE368.out)⟩⟩
 case rest =>
  clear HC4
  try clear c1
  try clear p2
  try clear c5
  try clear c8
  try clear c9
  try clear c11
  try clear c13
  try clear hcz10_0
  try clear hcz10_1
  try clear hcz10_2
  try clear hcz10_3
  try clear hcz10_4
  try clear hcz14_0
  try clear hcz14_1
  try clear hcz14_2
  try clear hcz14_3
  try clear hcz14_4
  try clear hcz16_0
  try clear hcz16_1
  try clear hcz16_2
  try clear hcz16_3
  try clear hcz16_4
  try clear hfz10_0
  try clear hfz10_1
  try clear hfz10_2
  try clear hfz10_3
  try clear hfz10_4
  try clear hfz14_0
  try clear hfz14_1
  try clear hfz14_2
  try clear hfz14_3
  try clear hfz14_4
  try clear hfz16_0
  try clear hfz16_1
  try clear hfz16_2
  try clear hfz16_3
  try clear hfz16_4
  obtain ⟨kq, x12_3, rfl, HA, HJ3, BK367, BK368, HB⟩ := hcut
  cases kq with
  | zero => exact absurd HA.out (by simp [caravanlaw5_ItemAll.j0])
  | succ kj3 =>
   have H := HA.out
   clear HA
   simp only [caravanlaw5_ItemAll.j0] at H
   by_cases c18 : x12_3 = true
   ·subst c18
    have H1 : ((caravanlaw5_awake.f kj3).bind fun t371 => (some t371)) = some r := by rw [if_pos rfl] at H; exact H
    clear H
    have H := H1
    clear H1
    replace H := Option.bind_eq_some_iff.mp H
    obtain ⟨t371, A190, H⟩ := H
    replace H : (some t371) = some r := H
    have A19 := Aside0.mk A190
    clear A190
    obtain rfl := Option.some.inj H
    go_wp2_with (first | ((with_reducible refine gate_callee (f := 10) rfl ?_); refine goesL_ (some 13) rfl rfl Try.func10 (by kernel_rfl) rfl #[] rfl qM_ ?_; (with_reducible refine (caravanlaw5_awake.calls kj3  t371 _ A19.out).mono ?_); rintro e w20 ⟨rfl, hb⟩; refine ⟨_, rfl, ?_⟩; have n0_ := Aside0.mk (blk_below (g := gb367) (o := .cells #[.int .i64 a0_0, .string a0_1, .slice A0_2 l0_2.length c0_2, .slice A0_3 l0_3.length c0_3, .int .i64 a0_4] 26 (0, 0)) (q3_ BK367.out) hb); have n1_ := Aside0.mk (blk_below (g := gb368) (o := .cells #[.int .i64 a1_0, .string a1_1, .slice A1_2 l1_2.length c1_2, .slice A1_3 l1_3.length c1_3, .int .i64 a1_4] 26 (0, 0)) (q3_ BK368.out) hb); have n2_ := Aside0.mk (below_step (q5_ HB.out GE367.out GE368.out) hb); clear BK367; clear BK368; clear HB; have BK367 := n0_; have BK368 := n1_; have HB := n2_; clear n0_ n1_ n2_; (try clear hb); (try clear hb2); (try clear hk); (try clear hi)))
    go_ret
    exact ⟨by first | rfl | (simp [errW_none, errW_some] <;> rfl) | (simp [*, errW_none, errW_some] <;> rfl), (q5_ HB.out GE367.out GE368.out)⟩
   ·replace c18 := Bool.eq_false_iff.mpr c18
    subst c18
    have H1 : ((item_May.f a0_0 a0_1 l0_2 l0_3 a0_4).bind fun t372 => ((caravanref5_MayItem.f kj3 a0_0 a0_1 l0_2 l0_3 a0_4).bind fun t373 => (if (t372 == t373) = true then ((item_Alive.f a0_0 a0_1 l0_2 l0_3 a0_4 a2).bind fun t374 => ((caravanref5_Alive.f a0_0 a0_1 l0_2 l0_3 a0_4 a2).bind fun t375 => (if (t374 == t375) = true then ((item_Type.f a0_0 a0_1 l0_2 l0_3 a0_4).bind fun t376 => ((caravanref5_Type.f a0_0 a0_1 l0_2 l0_3 a0_4).bind fun t377 => (if t376.toList = t377.toList then ((item_Same.f kj3 a0_0 a0_1 l0_2 l0_3 a0_4 a1_0 a1_1 l1_2 l1_3 a1_4).bind fun t378 => ((caravanref5_SameItem.f kj3 a0_0 a0_1 l0_2 l0_3 a0_4 a1_0 a1_1 l1_2 l1_3 a1_4).bind fun t379 => (if (t378 == t379) = true then ((item_Copy.f a0_0 a0_1 l0_2 l0_3 a0_4).bind fun bt380 => ((caravanref5_SameItem.f kj3 bt380.1 bt380.2.1 bt380.2.2.1 bt380.2.2.2.1 bt380.2.2.2.2 a0_0 a0_1 l0_2 l0_3 a0_4).bind fun t389 => (if t389 = true then ((caravanlaw5_awake.f kj3).bind fun t390 => (some t390)) else (some false)))) else (some false)))) else (some false)))) else (some false)))) else (some false)))) = some r := by rw [if_neg (show ¬ (false = true) by decide)] at H; exact H
    clear H
    have H := H1
    clear H1
    replace H := Option.bind_eq_some_iff.mp H
    obtain ⟨t372, A210, H⟩ := H
    replace H : ((caravanref5_MayItem.f kj3 a0_0 a0_1 l0_2 l0_3 a0_4).bind fun t373 => (if (t372 == t373) = true then ((item_Alive.f a0_0 a0_1 l0_2 l0_3 a0_4 a2).bind fun t374 => ((caravanref5_Alive.f a0_0 a0_1 l0_2 l0_3 a0_4 a2).bind fun t375 => (if (t374 == t375) = true then ((item_Type.f a0_0 a0_1 l0_2 l0_3 a0_4).bind fun t376 => ((caravanref5_Type.f a0_0 a0_1 l0_2 l0_3 a0_4).bind fun t377 => (if t376.toList = t377.toList then ((item_Same.f kj3 a0_0 a0_1 l0_2 l0_3 a0_4 a1_0 a1_1 l1_2 l1_3 a1_4).bind fun t378 => ((caravanref5_SameItem.f kj3 a0_0 a0_1 l0_2 l0_3 a0_4 a1_0 a1_1 l1_2 l1_3 a1_4).bind fun t379 => (if (t378 == t379) = true then ((item_Copy.f a0_0 a0_1 l0_2 l0_3 a0_4).bind fun bt380 => ((caravanref5_SameItem.f kj3 bt380.1 bt380.2.1 bt380.2.2.1 bt380.2.2.2.1 bt380.2.2.2.2 a0_0 a0_1 l0_2 l0_3 a0_4).bind fun t389 => (if t389 = true then ((caravanlaw5_awake.f kj3).bind fun t390 => (some t390)) else (some false)))) else (some false)))) else (some false)))) else (some false)))) else (some false))) = some r := H
    have A21 := Aside0.mk A210
    clear A210
    replace H := Option.bind_eq_some_iff.mp H
    obtain ⟨t373, A220, H⟩ := H
    replace H : (if (t372 == t373) = true then ((item_Alive.f a0_0 a0_1 l0_2 l0_3 a0_4 a2).bind fun t374 => ((caravanref5_Alive.f a0_0 a0_1 l0_2 l0_3 a0_4 a2).bind fun t375 => (if (t374 == t375) = true then ((item_Type.f a0_0 a0_1 l0_2 l0_3 a0_4).bind fun t376 => ((caravanref5_Type.f a0_0 a0_1 l0_2 l0_3 a0_4).bind fun t377 => (if t376.toList = t377.toList then ((item_Same.f kj3 a0_0 a0_1 l0_2 l0_3 a0_4 a1_0 a1_1 l1_2 l1_3 a1_4).bind fun t378 => ((caravanref5_SameItem.f kj3 a0_0 a0_1 l0_2 l0_3 a0_4 a1_0 a1_1 l1_2 l1_3 a1_4).bind fun t379 => (if (t378 == t379) = true then ((item_Copy.f a0_0 a0_1 l0_2 l0_3 a0_4).bind fun bt380 => ((caravanref5_SameItem.f kj3 bt380.1 bt380.2.1 bt380.2.2.1 bt380.2.2.2.1 bt380.2.2.2.2 a0_0 a0_1 l0_2 l0_3 a0_4).bind fun t389 => (if t389 = true then ((caravanlaw5_awake.f kj3).bind fun t390 => (some t390)) else (some false)))) else (some false)))) else (some false)))) else (some false)))) else (some false)) = some r := H
    have A22 := Aside0.mk A220
    clear A220
    by_cases c23 : (t372 == t373) = true
    ·rw [if_pos c23] at H
     have c23b0 : (t372 == t373) = true := c23
     (try (have c23b1 : decide (t372 = t373) = true := by simpa using c23))
     (try (have c23b2 : (t372 == t373) = true := by simpa using c23))
     clear c23
     replace H := Option.bind_eq_some_iff.mp H
     obtain ⟨t374, A240, H⟩ := H
     replace H : ((caravanref5_Alive.f a0_0 a0_1 l0_2 l0_3 a0_4 a2).bind fun t375 => (if (t374 == t375) = true then ((item_Type.f a0_0 a0_1 l0_2 l0_3 a0_4).bind fun t376 => ((caravanref5_Type.f a0_0 a0_1 l0_2 l0_3 a0_4).bind fun t377 => (if t376.toList = t377.toList then ((item_Same.f kj3 a0_0 a0_1 l0_2 l0_3 a0_4 a1_0 a1_1 l1_2 l1_3 a1_4).bind fun t378 => ((caravanref5_SameItem.f kj3 a0_0 a0_1 l0_2 l0_3 a0_4 a1_0 a1_1 l1_2 l1_3 a1_4).bind fun t379 => (if (t378 == t379) = true then ((item_Copy.f a0_0 a0_1 l0_2 l0_3 a0_4).bind fun bt380 => ((caravanref5_SameItem.f kj3 bt380.1 bt380.2.1 bt380.2.2.1 bt380.2.2.2.1 bt380.2.2.2.2 a0_0 a0_1 l0_2 l0_3 a0_4).bind fun t389 => (if t389 = true then ((caravanlaw5_awake.f kj3).bind fun t390 => (some t390)) else (some false)))) else (some false)))) else (some false)))) else (some false))) = some r := H
     have A24 := Aside0.mk A240
     clear A240
     replace H := Option.bind_eq_some_iff.mp H
     obtain ⟨t375, A250, H⟩ := H
     replace H : (if (t374 == t375) = true then ((item_Type.f a0_0 a0_1 l0_2 l0_3 a0_4).bind fun t376 => ((caravanref5_Type.f a0_0 a0_1 l0_2 l0_3 a0_4).bind fun t377 => (if t376.toList = t377.toList then ((item_Same.f kj3 a0_0 a0_1 l0_2 l0_3 a0_4 a1_0 a1_1 l1_2 l1_3 a1_4).bind fun t378 => ((caravanref5_SameItem.f kj3 a0_0 a0_1 l0_2 l0_3 a0_4 a1_0 a1_1 l1_2 l1_3 a1_4).bind fun t379 => (if (t378 == t379) = true then ((item_Copy.f a0_0 a0_1 l0_2 l0_3 a0_4).bind fun bt380 => ((caravanref5_SameItem.f kj3 bt380.1 bt380.2.1 bt380.2.2.1 bt380.2.2.2.1 bt380.2.2.2.2 a0_0 a0_1 l0_2 l0_3 a0_4).bind fun t389 => (if t389 = true then ((caravanlaw5_awake.f kj3).bind fun t390 => (some t390)) else (some false)))) else (some false)))) else (some false)))) else (some false)) = some r := H
     have A25 := Aside0.mk A250
     clear A250
     by_cases c26 : (t374 == t375) = true
     ·rw [if_pos c26] at H
      have c26b0 : (t374 == t375) = true := c26
      (try (have c26b1 : decide (t374 = t375) = true := by simpa using c26))
      (try (have c26b2 : (t374 == t375) = true := by simpa using c26))
      clear c26
      replace H := Option.bind_eq_some_iff.mp H
      obtain ⟨t376, A270, H⟩ := H
      replace H : ((caravanref5_Type.f a0_0 a0_1 l0_2 l0_3 a0_4).bind fun t377 => (if t376.toList = t377.toList then ((item_Same.f kj3 a0_0 a0_1 l0_2 l0_3 a0_4 a1_0 a1_1 l1_2 l1_3 a1_4).bind fun t378 => ((caravanref5_SameItem.f kj3 a0_0 a0_1 l0_2 l0_3 a0_4 a1_0 a1_1 l1_2 l1_3 a1_4).bind fun t379 => (if (t378 == t379) = true then ((item_Copy.f a0_0 a0_1 l0_2 l0_3 a0_4).bind fun bt380 => ((caravanref5_SameItem.f kj3 bt380.1 bt380.2.1 bt380.2.2.1 bt380.2.2.2.1 bt380.2.2.2.2 a0_0 a0_1 l0_2 l0_3 a0_4).bind fun t389 => (if t389 = true then ((caravanlaw5_awake.f kj3).bind fun t390 => (some t390)) else (some false)))) else (some false)))) else (some false))) = some r := H
      have A27 := Aside0.mk A270
      clear A270
      replace H := Option.bind_eq_some_iff.mp H
      obtain ⟨t377, A280, H⟩ := H
      replace H : (if t376.toList = t377.toList then ((item_Same.f kj3 a0_0 a0_1 l0_2 l0_3 a0_4 a1_0 a1_1 l1_2 l1_3 a1_4).bind fun t378 => ((caravanref5_SameItem.f kj3 a0_0 a0_1 l0_2 l0_3 a0_4 a1_0 a1_1 l1_2 l1_3 a1_4).bind fun t379 => (if (t378 == t379) = true then ((item_Copy.f a0_0 a0_1 l0_2 l0_3 a0_4).bind fun bt380 => ((caravanref5_SameItem.f kj3 bt380.1 bt380.2.1 bt380.2.2.1 bt380.2.2.2.1 bt380.2.2.2.2 a0_0 a0_1 l0_2 l0_3 a0_4).bind fun t389 => (if t389 = true then ((caravanlaw5_awake.f kj3).bind fun t390 => (some t390)) else (some false)))) else (some false)))) else (some false)) = some r := H
      have A28 := Aside0.mk A280
      clear A280
      by_cases c29 : t376.toList = t377.toList
      ·rw [if_pos c29] at H
       have c29b0 : (t376.toList == t377.toList) = true := beq_iff_eq.mpr c29
       have c29b1 : (t376.toList != t377.toList) = false := bne_eq_false_iff_eq.mpr c29
       clear c29
       replace H := Option.bind_eq_some_iff.mp H
       obtain ⟨t378, A300, H⟩ := H
       replace H : ((caravanref5_SameItem.f kj3 a0_0 a0_1 l0_2 l0_3 a0_4 a1_0 a1_1 l1_2 l1_3 a1_4).bind fun t379 => (if (t378 == t379) = true then ((item_Copy.f a0_0 a0_1 l0_2 l0_3 a0_4).bind fun bt380 => ((caravanref5_SameItem.f kj3 bt380.1 bt380.2.1 bt380.2.2.1 bt380.2.2.2.1 bt380.2.2.2.2 a0_0 a0_1 l0_2 l0_3 a0_4).bind fun t389 => (if t389 = true then ((caravanlaw5_awake.f kj3).bind fun t390 => (some t390)) else (some false)))) else (some false))) = some r := H
       have A30 := Aside0.mk A300
       clear A300
       replace H := Option.bind_eq_some_iff.mp H
       obtain ⟨t379, A310, H⟩ := H
       replace H : (if (t378 == t379) = true then ((item_Copy.f a0_0 a0_1 l0_2 l0_3 a0_4).bind fun bt380 => ((caravanref5_SameItem.f kj3 bt380.1 bt380.2.1 bt380.2.2.1 bt380.2.2.2.1 bt380.2.2.2.2 a0_0 a0_1 l0_2 l0_3 a0_4).bind fun t389 => (if t389 = true then ((caravanlaw5_awake.f kj3).bind fun t390 => (some t390)) else (some false)))) else (some false)) = some r := H
       have A31 := Aside0.mk A310
       clear A310
       by_cases c32 : (t378 == t379) = true
       ·rw [if_pos c32] at H
        have c32b0 : (t378 == t379) = true := c32
        (try (have c32b1 : decide (t378 = t379) = true := by simpa using c32))
        (try (have c32b2 : (t378 == t379) = true := by simpa using c32))
        clear c32
        replace H := Option.bind_eq_some_iff.mp H
        obtain ⟨⟨t380, t381, t382, t385, t388⟩, A330, H⟩ := H
        replace H : ((caravanref5_SameItem.f kj3 t380 t381 t382 t385 t388 a0_0 a0_1 l0_2 l0_3 a0_4).bind fun t389 => (if t389 = true then ((caravanlaw5_awake.f kj3).bind fun t390 => (some t390)) else (some false))) = some r := H
        have A33 := Aside0.mk A330
        clear A330
        replace H := Option.bind_eq_some_iff.mp H
        obtain ⟨t389, A340, H⟩ := H
        replace H : (if t389 = true then ((caravanlaw5_awake.f kj3).bind fun t390 => (some t390)) else (some false)) = some r := H
        have A34 := Aside0.mk A340
        clear A340
        by_cases c35 : t389 = true
        ·subst c35
         have H1 : ((caravanlaw5_awake.f kj3).bind fun t390 => (some t390)) = some r := by rw [if_pos rfl] at H; exact H
         clear H
         have H := H1
         clear H1
         replace H := Option.bind_eq_some_iff.mp H
         obtain ⟨t390, A360, H⟩ := H
         replace H : (some t390) = some r := H
         have A36 := Aside0.mk A360
         clear A360
         obtain rfl := Option.some.inj H
         try go_wp2
         have n0_ := Aside0.mk (blk_drew BK367.out)
         have n1_ := Aside0.mk (blk_drew BK368.out)
         have n2_ := Aside0.mk (below_drew1 HB.out)
         clear BK367
         clear BK368
         clear HB
         have BK367 := n0_
         have BK368 := n1_
         have HB := n2_
         clear n0_ n1_ n2_
         refine start_ (n := 40) (S := fun w' => w'.cell? ⟨gb367, 0, none⟩ = some (.int .i64 a0_0) ∧ w'.cell? ⟨gb367, 1, none⟩ = some (.string a0_1) ∧ w'.cell? ⟨gb367, 2, none⟩ = some (.slice A0_2 l0_2.length c0_2) ∧ w'.cell? ⟨gb367, 3, none⟩ = some (.slice A0_3 l0_3.length c0_3) ∧ w'.cell? ⟨gb367, 4, none⟩ = some (.int .i64 a0_4) ∧ w'.cell? ⟨gb368, 0, none⟩ = some (.int .i64 a1_0) ∧ w'.cell? ⟨gb368, 1, none⟩ = some (.string a1_1) ∧ w'.cell? ⟨gb368, 2, none⟩ = some (.slice A1_2 l1_2.length c1_2) ∧ w'.cell? ⟨gb368, 3, none⟩ = some (.slice A1_3 l1_3.length c1_3) ∧ w'.cell? ⟨gb368, 4, none⟩ = some (.int .i64 a1_4)) (ds := []) (ml_ 40 0) (by kernel_rfl) rfl rfl ⟨(blk_cell BK367.out 0).trans rfl, (blk_cell BK367.out 1).trans rfl, (blk_cell BK367.out 2).trans rfl, (blk_cell BK367.out 3).trans rfl, (blk_cell BK367.out 4).trans rfl, (blk_cell BK368.out 0).trans rfl, (blk_cell BK368.out 1).trans rfl, (blk_cell BK368.out 2).trans rfl, (blk_cell BK368.out 3).trans rfl, (blk_cell BK368.out 4).trans rfl⟩ (fun hHeld => ?_); refine with_tabW caravanlaw5_ItemAll.tab3 caravanlaw5_ItemAll.bits3 (fun HT_ HW_ => ?_)
         generalize wc.drew = w37 at BK367 BK368 HB hHeld ⊢
         refine t10_ 0 14 (ml_ 40 1) rfl rfl HT_.out HW_.out hHeld ?_
         refine t10_ 2 16 (ml_ 40 5) rfl rfl HT_.out HW_.out hHeld ?_
         refine one_ (i := 1) (N := some 15) (ml_ 40 7) rfl rfl (one_of HT_.out (by kernel_rfl)) (by decide) (fun K hK => ?_)
         refine goes_ Try.func9 (by kernel_rfl) rfl #[.agg #[.int .i64 a0_0, .string a0_1, .slice A0_2 l0_2.length c0_2, .slice A0_3 l0_3.length c0_3, .int .i64 a0_4]] (by rfl) rfl rfl qM_ ?_
         with_reducible refine (item_May.calls a0_0 a0_1 _ _ l0_2 _ _ l0_3 a0_4 t372 _ ?side1 ?side2 ?side3 ?side4 A21.out).mono ?_
         (case side1 => exact qC_ ((Kd.C_below HR0_2.out HB.out)))
         (case side2 => exact HC0_2.out)
         (case side3 => exact qC_ ((Kd.C_below HR0_3.out HB.out)))
         (case side4 => exact HC0_3.out)
         rintro e w38 ⟨rfl, hb⟩
         refine ⟨_, rfl, ?_⟩
         have n0_ := Aside0.mk (blk_below (g := gb367) (o := .cells #[.int .i64 a0_0, .string a0_1, .slice A0_2 l0_2.length c0_2, .slice A0_3 l0_3.length c0_3, .int .i64 a0_4] 26 (0, 0)) (q3_ BK367.out) hb)
         have n1_ := Aside0.mk (blk_below (g := gb368) (o := .cells #[.int .i64 a1_0, .string a1_1, .slice A1_2 l1_2.length c1_2, .slice A1_3 l1_3.length c1_3, .int .i64 a1_4] 26 (0, 0)) (q3_ BK368.out) hb)
         have n2_ := Aside0.mk (below_step (q5_ HB.out GE367.out GE368.out) hb)
         clear BK367
         clear BK368
         clear HB
         have BK367 := n0_
         have BK368 := n1_
         have HB := n2_
         clear n0_ n1_ n2_
         (try clear hb)
         (try clear hb2)
         (try clear hk)
         (try clear hi)
         refine hK.out _ _ ⟨(blk_cell BK367.out 0).trans rfl, (blk_cell BK367.out 1).trans rfl, (blk_cell BK367.out 2).trans rfl, (blk_cell BK367.out 3).trans rfl, (blk_cell BK367.out 4).trans rfl, (blk_cell BK368.out 0).trans rfl, (blk_cell BK368.out 1).trans rfl, (blk_cell BK368.out 2).trans rfl, (blk_cell BK368.out 3).trans rfl, (blk_cell BK368.out 4).trans rfl⟩ (fun hHeld => ?_)
         clear hK K
         refine nA_ 15 ?_
         refine one_ (i := 3) (N := some 17) (ml_ 40 15) rfl rfl (one_of HT_.out (by kernel_rfl)) (by decide) (fun K hK => ?_)
         refine goes_ Try.func12 (by kernel_rfl) rfl #[.agg #[.int .i64 a0_0, .string a0_1, .slice A0_2 l0_2.length c0_2, .slice A0_3 l0_3.length c0_3, .int .i64 a0_4]] (by rfl) rfl rfl qM_ ?_
         with_reducible refine (caravanref5_MayItem.calls kj3 a0_0 a0_1 _ _ l0_2 _ _ l0_3 a0_4 t373 _ ?side1 ?side2 ?side3 ?side4 A22.out).mono ?_
         (case side1 => exact qC_ ((Kd.C_below HR0_2.out HB.out)))
         (case side2 => exact HC0_2.out)
         (case side3 => exact qC_ ((Kd.C_below HR0_3.out HB.out)))
         (case side4 => exact HC0_3.out)
         rintro e w39 ⟨rfl, hb⟩
         refine ⟨_, rfl, ?_⟩
         have n0_ := Aside0.mk (blk_below (g := gb367) (o := .cells #[.int .i64 a0_0, .string a0_1, .slice A0_2 l0_2.length c0_2, .slice A0_3 l0_3.length c0_3, .int .i64 a0_4] 26 (0, 0)) (q3_ BK367.out) hb)
         have n1_ := Aside0.mk (blk_below (g := gb368) (o := .cells #[.int .i64 a1_0, .string a1_1, .slice A1_2 l1_2.length c1_2, .slice A1_3 l1_3.length c1_3, .int .i64 a1_4] 26 (0, 0)) (q3_ BK368.out) hb)
         have n2_ := Aside0.mk (below_step (q5_ HB.out GE367.out GE368.out) hb)
         clear BK367
         clear BK368
         clear HB
         have BK367 := n0_
         have BK368 := n1_
         have HB := n2_
         clear n0_ n1_ n2_
         (try clear hb)
         (try clear hb2)
         (try clear hk)
         (try clear hi)
         refine hK.out _ _ ⟨(blk_cell BK367.out 0).trans rfl, (blk_cell BK367.out 1).trans rfl, (blk_cell BK367.out 2).trans rfl, (blk_cell BK367.out 3).trans rfl, (blk_cell BK367.out 4).trans rfl, (blk_cell BK368.out 0).trans rfl, (blk_cell BK368.out 1).trans rfl, (blk_cell BK368.out 2).trans rfl, (blk_cell BK368.out 3).trans rfl, (blk_cell BK368.out 4).trans rfl⟩ (fun hHeld => ?_)
         clear hK K
         refine nA_ 17 ?_
         refine pA_ 4 18 (ml_ 40 31) rfl rfl HT_.out ?_
         refine pA_ 5 19 (ml_ 40 63) rfl rfl HT_.out ?_
         refine pA_ 7 21 (ml_ 40 191) rfl rfl HT_.out ?_
         refine pA_ 10 24 (ml_ 40 1215) rfl rfl HT_.out ?_
         refine t10_ 6 20 (ml_ 40 1279) rfl rfl HT_.out HW_.out hHeld ?_
         refine t10_ 9 23 (ml_ 40 1791) rfl rfl HT_.out HW_.out hHeld ?_
         refine one_ (i := 8) (N := some 22) (ml_ 40 2047) rfl rfl (one_of HT_.out (by kernel_rfl)) (by decide) (fun K hK => ?_)
         refine goes_ Try.func13 (by kernel_rfl) rfl #[.agg #[.int .i64 a0_0, .string a0_1, .slice A0_2 l0_2.length c0_2, .slice A0_3 l0_3.length c0_3, .int .i64 a0_4], .int .i64 a2] (by rfl) rfl rfl qM_ ?_
         with_reducible refine (item_Alive.calls a0_0 a0_1 _ _ l0_2 _ _ l0_3 a0_4 a2 t374 _ ?side1 ?side2 ?side3 ?side4 A24.out).mono ?_
         (case side1 => exact qC_ ((Kd.C_below HR0_2.out HB.out)))
         (case side2 => exact HC0_2.out)
         (case side3 => exact qC_ ((Kd.C_below HR0_3.out HB.out)))
         (case side4 => exact HC0_3.out)
         rintro e w40 ⟨rfl, hb⟩
         refine ⟨_, rfl, ?_⟩
         have n0_ := Aside0.mk (blk_below (g := gb367) (o := .cells #[.int .i64 a0_0, .string a0_1, .slice A0_2 l0_2.length c0_2, .slice A0_3 l0_3.length c0_3, .int .i64 a0_4] 26 (0, 0)) (q3_ BK367.out) hb)
         have n1_ := Aside0.mk (blk_below (g := gb368) (o := .cells #[.int .i64 a1_0, .string a1_1, .slice A1_2 l1_2.length c1_2, .slice A1_3 l1_3.length c1_3, .int .i64 a1_4] 26 (0, 0)) (q3_ BK368.out) hb)
         have n2_ := Aside0.mk (below_step (q5_ HB.out GE367.out GE368.out) hb)
         clear BK367
         clear BK368
         clear HB
         have BK367 := n0_
         have BK368 := n1_
         have HB := n2_
         clear n0_ n1_ n2_
         (try clear hb)
         (try clear hb2)
         (try clear hk)
         (try clear hi)
         refine hK.out _ _ ⟨(blk_cell BK367.out 0).trans rfl, (blk_cell BK367.out 1).trans rfl, (blk_cell BK367.out 2).trans rfl, (blk_cell BK367.out 3).trans rfl, (blk_cell BK367.out 4).trans rfl, (blk_cell BK368.out 0).trans rfl, (blk_cell BK368.out 1).trans rfl, (blk_cell BK368.out 2).trans rfl, (blk_cell BK368.out 3).trans rfl, (blk_cell BK368.out 4).trans rfl⟩ (fun hHeld => ?_)
         clear hK K
         refine nA_ 22 ?_
         refine one_ (i := 11) (N := some 25) (ml_ 40 4095) rfl rfl (one_of HT_.out (by kernel_rfl)) (by decide) (fun K hK => ?_)
         refine goes_ Try.func14 (by kernel_rfl) rfl #[.agg #[.int .i64 a0_0, .string a0_1, .slice A0_2 l0_2.length c0_2, .slice A0_3 l0_3.length c0_3, .int .i64 a0_4], .int .i64 a2] (by rfl) rfl rfl qM_ ?_
         with_reducible refine (caravanref5_Alive.calls a0_0 a0_1 _ _ l0_2 _ _ l0_3 a0_4 a2 t375 _ ?side1 ?side2 ?side3 ?side4 A25.out).mono ?_
         (case side1 => exact qC_ ((Kd.C_below HR0_2.out HB.out)))
         (case side2 => exact HC0_2.out)
         (case side3 => exact qC_ ((Kd.C_below HR0_3.out HB.out)))
         (case side4 => exact HC0_3.out)
         rintro e w41 ⟨rfl, hb⟩
         refine ⟨_, rfl, ?_⟩
         have n0_ := Aside0.mk (blk_below (g := gb367) (o := .cells #[.int .i64 a0_0, .string a0_1, .slice A0_2 l0_2.length c0_2, .slice A0_3 l0_3.length c0_3, .int .i64 a0_4] 26 (0, 0)) (q3_ BK367.out) hb)
         have n1_ := Aside0.mk (blk_below (g := gb368) (o := .cells #[.int .i64 a1_0, .string a1_1, .slice A1_2 l1_2.length c1_2, .slice A1_3 l1_3.length c1_3, .int .i64 a1_4] 26 (0, 0)) (q3_ BK368.out) hb)
         have n2_ := Aside0.mk (below_step (q5_ HB.out GE367.out GE368.out) hb)
         clear BK367
         clear BK368
         clear HB
         have BK367 := n0_
         have BK368 := n1_
         have HB := n2_
         clear n0_ n1_ n2_
         (try clear hb)
         (try clear hb2)
         (try clear hk)
         (try clear hi)
         refine hK.out _ _ ⟨(blk_cell BK367.out 0).trans rfl, (blk_cell BK367.out 1).trans rfl, (blk_cell BK367.out 2).trans rfl, (blk_cell BK367.out 3).trans rfl, (blk_cell BK367.out 4).trans rfl, (blk_cell BK368.out 0).trans rfl, (blk_cell BK368.out 1).trans rfl, (blk_cell BK368.out 2).trans rfl, (blk_cell BK368.out 3).trans rfl, (blk_cell BK368.out 4).trans rfl⟩ (fun hHeld => ?_)
         clear hK K
         refine nA_ 25 ?_
         refine pA_ 12 26 (ml_ 40 8191) rfl rfl HT_.out ?_
         refine pA_ 13 27 (ml_ 40 16383) rfl rfl HT_.out ?_
         refine pA_ 14 28 (ml_ 40 32767) rfl rfl HT_.out ?_
         refine t10_ 15 29 (ml_ 40 65535) rfl rfl HT_.out HW_.out hHeld ?_
         refine t10_ 17 31 (ml_ 40 196607) rfl rfl HT_.out HW_.out hHeld ?_
         refine one_ (i := 16) (N := some 30) (ml_ 40 262143) rfl rfl (one_of HT_.out (by kernel_rfl)) (by decide) (fun K hK => ?_)
         refine goes_ Try.func15 (by kernel_rfl) rfl #[.agg #[.int .i64 a0_0, .string a0_1, .slice A0_2 l0_2.length c0_2, .slice A0_3 l0_3.length c0_3, .int .i64 a0_4]] (by rfl) rfl rfl qM_ ?_
         with_reducible refine (item_Type.calls a0_0 a0_1 _ _ l0_2 _ _ l0_3 a0_4 t376 _ ?side1 ?side2 ?side3 ?side4 A27.out).mono ?_
         (case side1 => exact qC_ ((Kd.C_below HR0_2.out HB.out)))
         (case side2 => exact HC0_2.out)
         (case side3 => exact qC_ ((Kd.C_below HR0_3.out HB.out)))
         (case side4 => exact HC0_3.out)
         rintro e w42 ⟨rfl, hb⟩
         refine ⟨_, rfl, ?_⟩
         have n0_ := Aside0.mk (blk_below (g := gb367) (o := .cells #[.int .i64 a0_0, .string a0_1, .slice A0_2 l0_2.length c0_2, .slice A0_3 l0_3.length c0_3, .int .i64 a0_4] 26 (0, 0)) (q3_ BK367.out) hb)
         have n1_ := Aside0.mk (blk_below (g := gb368) (o := .cells #[.int .i64 a1_0, .string a1_1, .slice A1_2 l1_2.length c1_2, .slice A1_3 l1_3.length c1_3, .int .i64 a1_4] 26 (0, 0)) (q3_ BK368.out) hb)
         have n2_ := Aside0.mk (below_step (q5_ HB.out GE367.out GE368.out) hb)
         clear BK367
         clear BK368
         clear HB
         have BK367 := n0_
         have BK368 := n1_
         have HB := n2_
         clear n0_ n1_ n2_
         (try clear hb)
         (try clear hb2)
         (try clear hk)
         (try clear hi)
         refine hK.out _ _ ⟨(blk_cell BK367.out 0).trans rfl, (blk_cell BK367.out 1).trans rfl, (blk_cell BK367.out 2).trans rfl, (blk_cell BK367.out 3).trans rfl, (blk_cell BK367.out 4).trans rfl, (blk_cell BK368.out 0).trans rfl, (blk_cell BK368.out 1).trans rfl, (blk_cell BK368.out 2).trans rfl, (blk_cell BK368.out 3).trans rfl, (blk_cell BK368.out 4).trans rfl⟩ (fun hHeld => ?_)
         clear hK K
         refine nA_ 30 ?_
         refine one_ (i := 18) (N := some 32) (ml_ 40 524287) rfl rfl (one_of HT_.out (by kernel_rfl)) (by decide) (fun K hK => ?_)
         refine goes_ Try.func16 (by kernel_rfl) rfl #[.agg #[.int .i64 a0_0, .string a0_1, .slice A0_2 l0_2.length c0_2, .slice A0_3 l0_3.length c0_3, .int .i64 a0_4]] (by rfl) rfl rfl qM_ ?_
         with_reducible refine (caravanref5_Type.calls a0_0 a0_1 _ _ l0_2 _ _ l0_3 a0_4 t377 _ ?side1 ?side2 ?side3 ?side4 A28.out).mono ?_
         (case side1 => exact qC_ ((Kd.C_below HR0_2.out HB.out)))
         (case side2 => exact HC0_2.out)
         (case side3 => exact qC_ ((Kd.C_below HR0_3.out HB.out)))
         (case side4 => exact HC0_3.out)
         rintro e w43 ⟨rfl, hb⟩
         refine ⟨_, rfl, ?_⟩
         have n0_ := Aside0.mk (blk_below (g := gb367) (o := .cells #[.int .i64 a0_0, .string a0_1, .slice A0_2 l0_2.length c0_2, .slice A0_3 l0_3.length c0_3, .int .i64 a0_4] 26 (0, 0)) (q3_ BK367.out) hb)
         have n1_ := Aside0.mk (blk_below (g := gb368) (o := .cells #[.int .i64 a1_0, .string a1_1, .slice A1_2 l1_2.length c1_2, .slice A1_3 l1_3.length c1_3, .int .i64 a1_4] 26 (0, 0)) (q3_ BK368.out) hb)
         have n2_ := Aside0.mk (below_step (q5_ HB.out GE367.out GE368.out) hb)
         clear BK367
         clear BK368
         clear HB
         have BK367 := n0_
         have BK368 := n1_
         have HB := n2_
         clear n0_ n1_ n2_
         (try clear hb)
         (try clear hb2)
         (try clear hk)
         (try clear hi)
         refine hK.out _ _ ⟨(blk_cell BK367.out 0).trans rfl, (blk_cell BK367.out 1).trans rfl, (blk_cell BK367.out 2).trans rfl, (blk_cell BK367.out 3).trans rfl, (blk_cell BK367.out 4).trans rfl, (blk_cell BK368.out 0).trans rfl, (blk_cell BK368.out 1).trans rfl, (blk_cell BK368.out 2).trans rfl, (blk_cell BK368.out 3).trans rfl, (blk_cell BK368.out 4).trans rfl⟩ (fun hHeld => ?_)
         clear hK K
         refine nA_ 32 ?_
         refine pA_ 19 33 (ml_ 40 1048575) rfl rfl HT_.out ?_
         refine pA_ 20 34 (ml_ 40 2097151) rfl rfl HT_.out ?_
         refine pA_ 21 35 (ml_ 40 4194303) rfl rfl HT_.out ?_
         refine t10_ 22 36 (ml_ 40 8388607) rfl rfl HT_.out HW_.out hHeld ?_
         refine t10_ 23 37 (ml_ 40 16777215) rfl rfl HT_.out HW_.out hHeld ?_
         refine t10_ 25 39 (ml_ 40 50331647) rfl rfl HT_.out HW_.out hHeld ?_
         refine t10_ 26 40 (ml_ 40 117440511) rfl rfl HT_.out HW_.out hHeld ?_
         refine one_ (i := 24) (N := some 38) (ml_ 40 134217727) rfl rfl (one_of HT_.out (by kernel_rfl)) (by decide) (fun K hK => ?_)
         refine goes_ Try.func17 (by kernel_rfl) rfl #[.agg #[.int .i64 a0_0, .string a0_1, .slice A0_2 l0_2.length c0_2, .slice A0_3 l0_3.length c0_3, .int .i64 a0_4], .agg #[.int .i64 a1_0, .string a1_1, .slice A1_2 l1_2.length c1_2, .slice A1_3 l1_3.length c1_3, .int .i64 a1_4]] (by rfl) rfl rfl qM_ ?_
         with_reducible refine (item_Same.calls kj3 a0_0 a0_1 _ _ l0_2 _ _ l0_3 a0_4 a1_0 a1_1 _ _ l1_2 _ _ l1_3 a1_4 t378 _ ?side1 ?side2 ?side3 ?side4 ?side5 ?side6 ?side7 ?side8 A30.out).mono ?_
         (case side1 => exact qC_ ((Kd.C_below HR0_2.out HB.out)))
         (case side2 => exact HC0_2.out)
         (case side3 => exact qC_ ((Kd.C_below HR0_3.out HB.out)))
         (case side4 => exact HC0_3.out)
         (case side5 => exact qC_ ((Kd.C_below HR1_2.out HB.out)))
         (case side6 => exact HC1_2.out)
         (case side7 => exact qC_ ((Kd.C_below HR1_3.out HB.out)))
         (case side8 => exact HC1_3.out)
         rintro e w44 ⟨rfl, hb⟩
         refine ⟨_, rfl, ?_⟩
         have n0_ := Aside0.mk (blk_below (g := gb367) (o := .cells #[.int .i64 a0_0, .string a0_1, .slice A0_2 l0_2.length c0_2, .slice A0_3 l0_3.length c0_3, .int .i64 a0_4] 26 (0, 0)) (q3_ BK367.out) hb)
         have n1_ := Aside0.mk (blk_below (g := gb368) (o := .cells #[.int .i64 a1_0, .string a1_1, .slice A1_2 l1_2.length c1_2, .slice A1_3 l1_3.length c1_3, .int .i64 a1_4] 26 (0, 0)) (q3_ BK368.out) hb)
         have n2_ := Aside0.mk (below_step (q5_ HB.out GE367.out GE368.out) hb)
         clear BK367
         clear BK368
         clear HB
         have BK367 := n0_
         have BK368 := n1_
         have HB := n2_
         clear n0_ n1_ n2_
         (try clear hb)
         (try clear hb2)
         (try clear hk)
         (try clear hi)
         refine hK.out _ _ ⟨(blk_cell BK367.out 0).trans rfl, (blk_cell BK367.out 1).trans rfl, (blk_cell BK367.out 2).trans rfl, (blk_cell BK367.out 3).trans rfl, (blk_cell BK367.out 4).trans rfl, (blk_cell BK368.out 0).trans rfl, (blk_cell BK368.out 1).trans rfl, (blk_cell BK368.out 2).trans rfl, (blk_cell BK368.out 3).trans rfl, (blk_cell BK368.out 4).trans rfl⟩ (fun hHeld => ?_)
         clear hK K
         refine nA_ 38 ?_
         refine one_ (i := 27) (N := some 41) (ml_ 40 268435455) rfl rfl (one_of HT_.out (by kernel_rfl)) (by decide) (fun K hK => ?_)
         refine goes_ Try.func18 (by kernel_rfl) rfl #[.agg #[.int .i64 a0_0, .string a0_1, .slice A0_2 l0_2.length c0_2, .slice A0_3 l0_3.length c0_3, .int .i64 a0_4], .agg #[.int .i64 a1_0, .string a1_1, .slice A1_2 l1_2.length c1_2, .slice A1_3 l1_3.length c1_3, .int .i64 a1_4]] (by rfl) rfl rfl qM_ ?_
         with_reducible refine (caravanref5_SameItem.calls kj3 a0_0 a0_1 _ _ l0_2 _ _ l0_3 a0_4 a1_0 a1_1 _ _ l1_2 _ _ l1_3 a1_4 t379 _ ?side1 ?side2 ?side3 ?side4 ?side5 ?side6 ?side7 ?side8 A31.out).mono ?_
         (case side1 => exact qC_ ((Kd.C_below HR0_2.out HB.out)))
         (case side2 => exact HC0_2.out)
         (case side3 => exact qC_ ((Kd.C_below HR0_3.out HB.out)))
         (case side4 => exact HC0_3.out)
         (case side5 => exact qC_ ((Kd.C_below HR1_2.out HB.out)))
         (case side6 => exact HC1_2.out)
         (case side7 => exact qC_ ((Kd.C_below HR1_3.out HB.out)))
         (case side8 => exact HC1_3.out)
         rintro e w45 ⟨rfl, hb⟩
         refine ⟨_, rfl, ?_⟩
         have n0_ := Aside0.mk (blk_below (g := gb367) (o := .cells #[.int .i64 a0_0, .string a0_1, .slice A0_2 l0_2.length c0_2, .slice A0_3 l0_3.length c0_3, .int .i64 a0_4] 26 (0, 0)) (q3_ BK367.out) hb)
         have n1_ := Aside0.mk (blk_below (g := gb368) (o := .cells #[.int .i64 a1_0, .string a1_1, .slice A1_2 l1_2.length c1_2, .slice A1_3 l1_3.length c1_3, .int .i64 a1_4] 26 (0, 0)) (q3_ BK368.out) hb)
         have n2_ := Aside0.mk (below_step (q5_ HB.out GE367.out GE368.out) hb)
         clear BK367
         clear BK368
         clear HB
         have BK367 := n0_
         have BK368 := n1_
         have HB := n2_
         clear n0_ n1_ n2_
         (try clear hb)
         (try clear hb2)
         (try clear hk)
         (try clear hi)
         refine hK.out _ _ ⟨(blk_cell BK367.out 0).trans rfl, (blk_cell BK367.out 1).trans rfl, (blk_cell BK367.out 2).trans rfl, (blk_cell BK367.out 3).trans rfl, (blk_cell BK367.out 4).trans rfl, (blk_cell BK368.out 0).trans rfl, (blk_cell BK368.out 1).trans rfl, (blk_cell BK368.out 2).trans rfl, (blk_cell BK368.out 3).trans rfl, (blk_cell BK368.out 4).trans rfl⟩ (fun hHeld => ?_)
         clear hK K
         refine nA_ 41 ?_
         refine pA_ 28 42 (ml_ 40 536870911) rfl rfl HT_.out ?_
         refine pA_ 29 43 (ml_ 40 1073741823) rfl rfl HT_.out ?_
         refine pA_ 30 44 (ml_ 40 2147483647) rfl rfl HT_.out ?_
         refine t10_ 31 45 (ml_ 40 4294967295) rfl rfl HT_.out HW_.out hHeld ?_
         refine t10_ 33 47 (ml_ 40 12884901887) rfl rfl HT_.out HW_.out hHeld ?_
         refine one_ (i := 32) (N := some 46) (ml_ 40 17179869183) rfl rfl (one_of HT_.out (by kernel_rfl)) (by decide) (fun K hK => ?_)
         refine goes_ Try.func19 (by kernel_rfl) rfl #[.agg #[.int .i64 a0_0, .string a0_1, .slice A0_2 l0_2.length c0_2, .slice A0_3 l0_3.length c0_3, .int .i64 a0_4]] (by rfl) rfl rfl qM_ ?_
         with_reducible refine (item_Copy.calls a0_0 a0_1 _ _ l0_2 _ _ l0_3 a0_4 t380 t381 t382 t385 t388 _ ?side1 ?side2 ?side3 ?side4 A33.out).mono ?_
         (case side1 => exact qC_ ((Kd.C_below HR0_2.out HB.out)))
         (case side2 => exact HC0_2.out)
         (case side3 => exact qC_ ((Kd.C_below HR0_3.out HB.out)))
         (case side4 => exact HC0_3.out)
         rintro e w46 ⟨v383, v386, rfl, ho0, ho1, hb⟩
         refine ⟨_, rfl, ?_⟩
         have n0_ := Aside0.mk (Kd.R_lower ho0 (below_size (q5_ HB.out GE367.out GE368.out)))
         have n1_ := Aside0.mk (Kd.R_lower ho1 (below_size (q5_ HB.out GE367.out GE368.out)))
         have n2_ := Aside0.mk (blk_below (g := gb367) (o := .cells #[.int .i64 a0_0, .string a0_1, .slice A0_2 l0_2.length c0_2, .slice A0_3 l0_3.length c0_3, .int .i64 a0_4] 26 (0, 0)) (q3_ BK367.out) hb)
         have n3_ := Aside0.mk (blk_below (g := gb368) (o := .cells #[.int .i64 a1_0, .string a1_1, .slice A1_2 l1_2.length c1_2, .slice A1_3 l1_3.length c1_3, .int .i64 a1_4] 26 (0, 0)) (q3_ BK368.out) hb)
         have n4_ := Aside0.mk (below_step (q5_ HB.out GE367.out GE368.out) hb)
         clear BK367
         clear BK368
         clear HB
         have HO384 := n0_
         have HO387 := n1_
         have BK367 := n2_
         have BK368 := n3_
         have HB := n4_
         clear n0_ n1_ n2_ n3_ n4_
         (try clear hb)
         (try clear hb2)
         (try clear hk)
         (try clear hi)
         (try clear ho0)
         (try clear ho1)
         obtain ⟨Ao47, co47, eo47⟩ := Kd.R_slice HO384.out
         (first | subst eo47 | (injection eo47 with f1_ f2_ f3_; have f4_ := f1_.symm; have f5_ := f3_.symm; clear f1_ f2_ f3_; subst f4_; subst f5_))
         obtain ⟨Ao48, co48, eo48⟩ := Kd.R_slice HO387.out
         (first | subst eo48 | (injection eo48 with f1_ f2_ f3_; have f4_ := f1_.symm; have f5_ := f3_.symm; clear f1_ f2_ f3_; subst f4_; subst f5_))
         refine hK.out _ _ ⟨(blk_cell BK367.out 0).trans rfl, (blk_cell BK367.out 1).trans rfl, (blk_cell BK367.out 2).trans rfl, (blk_cell BK367.out 3).trans rfl, (blk_cell BK367.out 4).trans rfl, (blk_cell BK368.out 0).trans rfl, (blk_cell BK368.out 1).trans rfl, (blk_cell BK368.out 2).trans rfl, (blk_cell BK368.out 3).trans rfl, (blk_cell BK368.out 4).trans rfl⟩ (fun hHeld => ?_)
         clear hK K
         refine nA_ 46 ?_
         refine one_ (i := 34) (N := some 48) (ml_ 40 34359738367) rfl rfl (one_of HT_.out (by kernel_rfl)) (by decide) (fun K hK => ?_)
         refine goes_ Try.func18 (by kernel_rfl) rfl #[.agg #[.int .i64 t380, .string t381, .slice Ao47 t382.length co47, .slice Ao48 t385.length co48, .int .i64 t388], .agg #[.int .i64 a0_0, .string a0_1, .slice A0_2 l0_2.length c0_2, .slice A0_3 l0_3.length c0_3, .int .i64 a0_4]] (by rfl) rfl rfl qM_ ?_
         with_reducible refine (caravanref5_SameItem.calls kj3 t380 t381 _ _ t382 _ _ t385 t388 a0_0 a0_1 _ _ l0_2 _ _ l0_3 a0_4 true _ ?side1 ?side2 ?side3 ?side4 ?side5 ?side6 ?side7 ?side8 A34.out).mono ?_
         (case side1 => exact qC_ ((Kd.R_reads' HO384.out).2.2))
         (case side2 => exact (Kd.R_reads' HO384.out).2.1)
         (case side3 => exact qC_ ((Kd.R_reads' HO387.out).2.2))
         (case side4 => exact (Kd.R_reads' HO387.out).2.1)
         (case side5 => exact qC_ ((Kd.C_below HR0_2.out HB.out)))
         (case side6 => exact HC0_2.out)
         (case side7 => exact qC_ ((Kd.C_below HR0_3.out HB.out)))
         (case side8 => exact HC0_3.out)
         rintro e w49 ⟨rfl, hb⟩
         refine ⟨_, rfl, ?_⟩
         have n0_ := Aside0.mk (Kd.R_below (q1_ HO384.out) hb)
         have n1_ := Aside0.mk (Kd.R_below (q1_ HO387.out) hb)
         have n2_ := Aside0.mk (blk_below (g := gb367) (o := .cells #[.int .i64 a0_0, .string a0_1, .slice A0_2 l0_2.length c0_2, .slice A0_3 l0_3.length c0_3, .int .i64 a0_4] 26 (0, 0)) (q3_ BK367.out) hb)
         have n3_ := Aside0.mk (blk_below (g := gb368) (o := .cells #[.int .i64 a1_0, .string a1_1, .slice A1_2 l1_2.length c1_2, .slice A1_3 l1_3.length c1_3, .int .i64 a1_4] 26 (0, 0)) (q3_ BK368.out) hb)
         have n4_ := Aside0.mk (below_step (q5_ HB.out GE367.out GE368.out) hb)
         clear HO384
         clear HO387
         clear BK367
         clear BK368
         clear HB
         have HO384 := n0_
         have HO387 := n1_
         have BK367 := n2_
         have BK368 := n3_
         have HB := n4_
         clear n0_ n1_ n2_ n3_ n4_
         (try clear hb)
         (try clear hb2)
         (try clear hk)
         (try clear hi)
         refine hK.out _ _ ⟨(blk_cell BK367.out 0).trans rfl, (blk_cell BK367.out 1).trans rfl, (blk_cell BK367.out 2).trans rfl, (blk_cell BK367.out 3).trans rfl, (blk_cell BK367.out 4).trans rfl, (blk_cell BK368.out 0).trans rfl, (blk_cell BK368.out 1).trans rfl, (blk_cell BK368.out 2).trans rfl, (blk_cell BK368.out 3).trans rfl, (blk_cell BK368.out 4).trans rfl⟩ (fun hHeld => ?_)
         clear hK K
         refine nA_ 48 ?_
         refine pA_ 35 49 (ml_ 40 68719476735) rfl rfl HT_.out ?_
         refine pA_ 36 50 (ml_ 40 137438953471) rfl rfl HT_.out ?_
         refine one_ (i := 37) (N := some 51) (ml_ 40 274877906943) rfl rfl (one_of HT_.out (by kernel_rfl)) (by decide) (fun K hK => ?_)
         refine goes_ Try.func10 (by kernel_rfl) rfl #[] (by rfl) rfl rfl qM_ ?_
         with_reducible refine (caravanlaw5_awake.calls kj3  t390 _ A36.out).mono ?_
         rintro e w50 ⟨rfl, hb⟩
         refine ⟨_, rfl, ?_⟩
         have n0_ := Aside0.mk (Kd.R_below (q1_ HO384.out) hb)
         have n1_ := Aside0.mk (Kd.R_below (q1_ HO387.out) hb)
         have n2_ := Aside0.mk (blk_below (g := gb367) (o := .cells #[.int .i64 a0_0, .string a0_1, .slice A0_2 l0_2.length c0_2, .slice A0_3 l0_3.length c0_3, .int .i64 a0_4] 26 (0, 0)) (q3_ BK367.out) hb)
         have n3_ := Aside0.mk (blk_below (g := gb368) (o := .cells #[.int .i64 a1_0, .string a1_1, .slice A1_2 l1_2.length c1_2, .slice A1_3 l1_3.length c1_3, .int .i64 a1_4] 26 (0, 0)) (q3_ BK368.out) hb)
         have n4_ := Aside0.mk (below_step (q5_ HB.out GE367.out GE368.out) hb)
         clear HO384
         clear HO387
         clear BK367
         clear BK368
         clear HB
         have HO384 := n0_
         have HO387 := n1_
         have BK367 := n2_
         have BK368 := n3_
         have HB := n4_
         clear n0_ n1_ n2_ n3_ n4_
         (try clear hb)
         (try clear hb2)
         (try clear hk)
         (try clear hi)
         refine hK.out _ _ ⟨(blk_cell BK367.out 0).trans rfl, (blk_cell BK367.out 1).trans rfl, (blk_cell BK367.out 2).trans rfl, (blk_cell BK367.out 3).trans rfl, (blk_cell BK367.out 4).trans rfl, (blk_cell BK368.out 0).trans rfl, (blk_cell BK368.out 1).trans rfl, (blk_cell BK368.out 2).trans rfl, (blk_cell BK368.out 3).trans rfl, (blk_cell BK368.out 4).trans rfl⟩ (fun hHeld => ?_)
         clear hK K
         refine nA_ 51 ?_
         refine pA_ 38 52 (ml_ 40 549755813887) rfl rfl HT_.out ?_
         refine pA_ 39 6 (ml_ 40 1099511627775) rfl rfl HT_.out ?_
         refine done_ (done_of HT_.out (by kernel_rfl)) ?_
         try go_wp2
         go_ret
         exact ⟨by first | rfl | (simp [errW_none, errW_some] <;> rfl) | (simp [*, errW_none, errW_some] <;> rfl), (q5_ HB.out GE367.out GE368.out)⟩
        ·replace c35 := Bool.eq_false_iff.mpr c35
         subst c35
         have H1 : (some false) = some r := by rw [if_neg (show ¬ (false = true) by decide)] at H; exact H
         clear H
         have H := H1
         clear H1
         obtain rfl := Option.some.inj H
         try go_wp2
         have n0_ := Aside0.mk (blk_drew BK367.out)
         have n1_ := Aside0.mk (blk_drew BK368.out)
         have n2_ := Aside0.mk (below_drew1 HB.out)
         clear BK367
         clear BK368
         clear HB
         have BK367 := n0_
         have BK368 := n1_
         have HB := n2_
         clear n0_ n1_ n2_
         refine start_ (n := 40) (S := fun w' => w'.cell? ⟨gb367, 0, none⟩ = some (.int .i64 a0_0) ∧ w'.cell? ⟨gb367, 1, none⟩ = some (.string a0_1) ∧ w'.cell? ⟨gb367, 2, none⟩ = some (.slice A0_2 l0_2.length c0_2) ∧ w'.cell? ⟨gb367, 3, none⟩ = some (.slice A0_3 l0_3.length c0_3) ∧ w'.cell? ⟨gb367, 4, none⟩ = some (.int .i64 a0_4) ∧ w'.cell? ⟨gb368, 0, none⟩ = some (.int .i64 a1_0) ∧ w'.cell? ⟨gb368, 1, none⟩ = some (.string a1_1) ∧ w'.cell? ⟨gb368, 2, none⟩ = some (.slice A1_2 l1_2.length c1_2) ∧ w'.cell? ⟨gb368, 3, none⟩ = some (.slice A1_3 l1_3.length c1_3) ∧ w'.cell? ⟨gb368, 4, none⟩ = some (.int .i64 a1_4)) (ds := []) (ml_ 40 0) (by kernel_rfl) rfl rfl ⟨(blk_cell BK367.out 0).trans rfl, (blk_cell BK367.out 1).trans rfl, (blk_cell BK367.out 2).trans rfl, (blk_cell BK367.out 3).trans rfl, (blk_cell BK367.out 4).trans rfl, (blk_cell BK368.out 0).trans rfl, (blk_cell BK368.out 1).trans rfl, (blk_cell BK368.out 2).trans rfl, (blk_cell BK368.out 3).trans rfl, (blk_cell BK368.out 4).trans rfl⟩ (fun hHeld => ?_); refine with_tabW caravanlaw5_ItemAll.tab3 caravanlaw5_ItemAll.bits3 (fun HT_ HW_ => ?_)
         generalize wc.drew = w51 at BK367 BK368 HB hHeld ⊢
         refine t10_ 0 14 (ml_ 40 1) rfl rfl HT_.out HW_.out hHeld ?_
         refine t10_ 2 16 (ml_ 40 5) rfl rfl HT_.out HW_.out hHeld ?_
         refine one_ (i := 1) (N := some 15) (ml_ 40 7) rfl rfl (one_of HT_.out (by kernel_rfl)) (by decide) (fun K hK => ?_)
         refine goes_ Try.func9 (by kernel_rfl) rfl #[.agg #[.int .i64 a0_0, .string a0_1, .slice A0_2 l0_2.length c0_2, .slice A0_3 l0_3.length c0_3, .int .i64 a0_4]] (by rfl) rfl rfl qM_ ?_
         with_reducible refine (item_May.calls a0_0 a0_1 _ _ l0_2 _ _ l0_3 a0_4 t372 _ ?side1 ?side2 ?side3 ?side4 A21.out).mono ?_
         (case side1 => exact qC_ ((Kd.C_below HR0_2.out HB.out)))
         (case side2 => exact HC0_2.out)
         (case side3 => exact qC_ ((Kd.C_below HR0_3.out HB.out)))
         (case side4 => exact HC0_3.out)
         rintro e w52 ⟨rfl, hb⟩
         refine ⟨_, rfl, ?_⟩
         have n0_ := Aside0.mk (blk_below (g := gb367) (o := .cells #[.int .i64 a0_0, .string a0_1, .slice A0_2 l0_2.length c0_2, .slice A0_3 l0_3.length c0_3, .int .i64 a0_4] 26 (0, 0)) (q3_ BK367.out) hb)
         have n1_ := Aside0.mk (blk_below (g := gb368) (o := .cells #[.int .i64 a1_0, .string a1_1, .slice A1_2 l1_2.length c1_2, .slice A1_3 l1_3.length c1_3, .int .i64 a1_4] 26 (0, 0)) (q3_ BK368.out) hb)
         have n2_ := Aside0.mk (below_step (q5_ HB.out GE367.out GE368.out) hb)
         clear BK367
         clear BK368
         clear HB
         have BK367 := n0_
         have BK368 := n1_
         have HB := n2_
         clear n0_ n1_ n2_
         (try clear hb)
         (try clear hb2)
         (try clear hk)
         (try clear hi)
         refine hK.out _ _ ⟨(blk_cell BK367.out 0).trans rfl, (blk_cell BK367.out 1).trans rfl, (blk_cell BK367.out 2).trans rfl, (blk_cell BK367.out 3).trans rfl, (blk_cell BK367.out 4).trans rfl, (blk_cell BK368.out 0).trans rfl, (blk_cell BK368.out 1).trans rfl, (blk_cell BK368.out 2).trans rfl, (blk_cell BK368.out 3).trans rfl, (blk_cell BK368.out 4).trans rfl⟩ (fun hHeld => ?_)
         clear hK K
         refine nA_ 15 ?_
         refine one_ (i := 3) (N := some 17) (ml_ 40 15) rfl rfl (one_of HT_.out (by kernel_rfl)) (by decide) (fun K hK => ?_)
         refine goes_ Try.func12 (by kernel_rfl) rfl #[.agg #[.int .i64 a0_0, .string a0_1, .slice A0_2 l0_2.length c0_2, .slice A0_3 l0_3.length c0_3, .int .i64 a0_4]] (by rfl) rfl rfl qM_ ?_
         with_reducible refine (caravanref5_MayItem.calls kj3 a0_0 a0_1 _ _ l0_2 _ _ l0_3 a0_4 t373 _ ?side1 ?side2 ?side3 ?side4 A22.out).mono ?_
         (case side1 => exact qC_ ((Kd.C_below HR0_2.out HB.out)))
         (case side2 => exact HC0_2.out)
         (case side3 => exact qC_ ((Kd.C_below HR0_3.out HB.out)))
         (case side4 => exact HC0_3.out)
         rintro e w53 ⟨rfl, hb⟩
         refine ⟨_, rfl, ?_⟩
         have n0_ := Aside0.mk (blk_below (g := gb367) (o := .cells #[.int .i64 a0_0, .string a0_1, .slice A0_2 l0_2.length c0_2, .slice A0_3 l0_3.length c0_3, .int .i64 a0_4] 26 (0, 0)) (q3_ BK367.out) hb)
         have n1_ := Aside0.mk (blk_below (g := gb368) (o := .cells #[.int .i64 a1_0, .string a1_1, .slice A1_2 l1_2.length c1_2, .slice A1_3 l1_3.length c1_3, .int .i64 a1_4] 26 (0, 0)) (q3_ BK368.out) hb)
         have n2_ := Aside0.mk (below_step (q5_ HB.out GE367.out GE368.out) hb)
         clear BK367
         clear BK368
         clear HB
         have BK367 := n0_
         have BK368 := n1_
         have HB := n2_
         clear n0_ n1_ n2_
         (try clear hb)
         (try clear hb2)
         (try clear hk)
         (try clear hi)
         refine hK.out _ _ ⟨(blk_cell BK367.out 0).trans rfl, (blk_cell BK367.out 1).trans rfl, (blk_cell BK367.out 2).trans rfl, (blk_cell BK367.out 3).trans rfl, (blk_cell BK367.out 4).trans rfl, (blk_cell BK368.out 0).trans rfl, (blk_cell BK368.out 1).trans rfl, (blk_cell BK368.out 2).trans rfl, (blk_cell BK368.out 3).trans rfl, (blk_cell BK368.out 4).trans rfl⟩ (fun hHeld => ?_)
         clear hK K
         refine nA_ 17 ?_
         refine pA_ 4 18 (ml_ 40 31) rfl rfl HT_.out ?_
         refine pA_ 5 19 (ml_ 40 63) rfl rfl HT_.out ?_
         refine pA_ 7 21 (ml_ 40 191) rfl rfl HT_.out ?_
         refine pA_ 10 24 (ml_ 40 1215) rfl rfl HT_.out ?_
         refine t10_ 6 20 (ml_ 40 1279) rfl rfl HT_.out HW_.out hHeld ?_
         refine t10_ 9 23 (ml_ 40 1791) rfl rfl HT_.out HW_.out hHeld ?_
         refine one_ (i := 8) (N := some 22) (ml_ 40 2047) rfl rfl (one_of HT_.out (by kernel_rfl)) (by decide) (fun K hK => ?_)
         refine goes_ Try.func13 (by kernel_rfl) rfl #[.agg #[.int .i64 a0_0, .string a0_1, .slice A0_2 l0_2.length c0_2, .slice A0_3 l0_3.length c0_3, .int .i64 a0_4], .int .i64 a2] (by rfl) rfl rfl qM_ ?_
         with_reducible refine (item_Alive.calls a0_0 a0_1 _ _ l0_2 _ _ l0_3 a0_4 a2 t374 _ ?side1 ?side2 ?side3 ?side4 A24.out).mono ?_
         (case side1 => exact qC_ ((Kd.C_below HR0_2.out HB.out)))
         (case side2 => exact HC0_2.out)
         (case side3 => exact qC_ ((Kd.C_below HR0_3.out HB.out)))
         (case side4 => exact HC0_3.out)
         rintro e w54 ⟨rfl, hb⟩
         refine ⟨_, rfl, ?_⟩
         have n0_ := Aside0.mk (blk_below (g := gb367) (o := .cells #[.int .i64 a0_0, .string a0_1, .slice A0_2 l0_2.length c0_2, .slice A0_3 l0_3.length c0_3, .int .i64 a0_4] 26 (0, 0)) (q3_ BK367.out) hb)
         have n1_ := Aside0.mk (blk_below (g := gb368) (o := .cells #[.int .i64 a1_0, .string a1_1, .slice A1_2 l1_2.length c1_2, .slice A1_3 l1_3.length c1_3, .int .i64 a1_4] 26 (0, 0)) (q3_ BK368.out) hb)
         have n2_ := Aside0.mk (below_step (q5_ HB.out GE367.out GE368.out) hb)
         clear BK367
         clear BK368
         clear HB
         have BK367 := n0_
         have BK368 := n1_
         have HB := n2_
         clear n0_ n1_ n2_
         (try clear hb)
         (try clear hb2)
         (try clear hk)
         (try clear hi)
         refine hK.out _ _ ⟨(blk_cell BK367.out 0).trans rfl, (blk_cell BK367.out 1).trans rfl, (blk_cell BK367.out 2).trans rfl, (blk_cell BK367.out 3).trans rfl, (blk_cell BK367.out 4).trans rfl, (blk_cell BK368.out 0).trans rfl, (blk_cell BK368.out 1).trans rfl, (blk_cell BK368.out 2).trans rfl, (blk_cell BK368.out 3).trans rfl, (blk_cell BK368.out 4).trans rfl⟩ (fun hHeld => ?_)
         clear hK K
         refine nA_ 22 ?_
         refine one_ (i := 11) (N := some 25) (ml_ 40 4095) rfl rfl (one_of HT_.out (by kernel_rfl)) (by decide) (fun K hK => ?_)
         refine goes_ Try.func14 (by kernel_rfl) rfl #[.agg #[.int .i64 a0_0, .string a0_1, .slice A0_2 l0_2.length c0_2, .slice A0_3 l0_3.length c0_3, .int .i64 a0_4], .int .i64 a2] (by rfl) rfl rfl qM_ ?_
         with_reducible refine (caravanref5_Alive.calls a0_0 a0_1 _ _ l0_2 _ _ l0_3 a0_4 a2 t375 _ ?side1 ?side2 ?side3 ?side4 A25.out).mono ?_
         (case side1 => exact qC_ ((Kd.C_below HR0_2.out HB.out)))
         (case side2 => exact HC0_2.out)
         (case side3 => exact qC_ ((Kd.C_below HR0_3.out HB.out)))
         (case side4 => exact HC0_3.out)
         rintro e w55 ⟨rfl, hb⟩
         refine ⟨_, rfl, ?_⟩
         have n0_ := Aside0.mk (blk_below (g := gb367) (o := .cells #[.int .i64 a0_0, .string a0_1, .slice A0_2 l0_2.length c0_2, .slice A0_3 l0_3.length c0_3, .int .i64 a0_4] 26 (0, 0)) (q3_ BK367.out) hb)
         have n1_ := Aside0.mk (blk_below (g := gb368) (o := .cells #[.int .i64 a1_0, .string a1_1, .slice A1_2 l1_2.length c1_2, .slice A1_3 l1_3.length c1_3, .int .i64 a1_4] 26 (0, 0)) (q3_ BK368.out) hb)
         have n2_ := Aside0.mk (below_step (q5_ HB.out GE367.out GE368.out) hb)
         clear BK367
         clear BK368
         clear HB
         have BK367 := n0_
         have BK368 := n1_
         have HB := n2_
         clear n0_ n1_ n2_
         (try clear hb)
         (try clear hb2)
         (try clear hk)
         (try clear hi)
         refine hK.out _ _ ⟨(blk_cell BK367.out 0).trans rfl, (blk_cell BK367.out 1).trans rfl, (blk_cell BK367.out 2).trans rfl, (blk_cell BK367.out 3).trans rfl, (blk_cell BK367.out 4).trans rfl, (blk_cell BK368.out 0).trans rfl, (blk_cell BK368.out 1).trans rfl, (blk_cell BK368.out 2).trans rfl, (blk_cell BK368.out 3).trans rfl, (blk_cell BK368.out 4).trans rfl⟩ (fun hHeld => ?_)
         clear hK K
         refine nA_ 25 ?_
         refine pA_ 12 26 (ml_ 40 8191) rfl rfl HT_.out ?_
         refine pA_ 13 27 (ml_ 40 16383) rfl rfl HT_.out ?_
         refine pA_ 14 28 (ml_ 40 32767) rfl rfl HT_.out ?_
         refine t10_ 15 29 (ml_ 40 65535) rfl rfl HT_.out HW_.out hHeld ?_
         refine t10_ 17 31 (ml_ 40 196607) rfl rfl HT_.out HW_.out hHeld ?_
         refine one_ (i := 16) (N := some 30) (ml_ 40 262143) rfl rfl (one_of HT_.out (by kernel_rfl)) (by decide) (fun K hK => ?_)
         refine goes_ Try.func15 (by kernel_rfl) rfl #[.agg #[.int .i64 a0_0, .string a0_1, .slice A0_2 l0_2.length c0_2, .slice A0_3 l0_3.length c0_3, .int .i64 a0_4]] (by rfl) rfl rfl qM_ ?_
         with_reducible refine (item_Type.calls a0_0 a0_1 _ _ l0_2 _ _ l0_3 a0_4 t376 _ ?side1 ?side2 ?side3 ?side4 A27.out).mono ?_
         (case side1 => exact qC_ ((Kd.C_below HR0_2.out HB.out)))
         (case side2 => exact HC0_2.out)
         (case side3 => exact qC_ ((Kd.C_below HR0_3.out HB.out)))
         (case side4 => exact HC0_3.out)
         rintro e w56 ⟨rfl, hb⟩
         refine ⟨_, rfl, ?_⟩
         have n0_ := Aside0.mk (blk_below (g := gb367) (o := .cells #[.int .i64 a0_0, .string a0_1, .slice A0_2 l0_2.length c0_2, .slice A0_3 l0_3.length c0_3, .int .i64 a0_4] 26 (0, 0)) (q3_ BK367.out) hb)
         have n1_ := Aside0.mk (blk_below (g := gb368) (o := .cells #[.int .i64 a1_0, .string a1_1, .slice A1_2 l1_2.length c1_2, .slice A1_3 l1_3.length c1_3, .int .i64 a1_4] 26 (0, 0)) (q3_ BK368.out) hb)
         have n2_ := Aside0.mk (below_step (q5_ HB.out GE367.out GE368.out) hb)
         clear BK367
         clear BK368
         clear HB
         have BK367 := n0_
         have BK368 := n1_
         have HB := n2_
         clear n0_ n1_ n2_
         (try clear hb)
         (try clear hb2)
         (try clear hk)
         (try clear hi)
         refine hK.out _ _ ⟨(blk_cell BK367.out 0).trans rfl, (blk_cell BK367.out 1).trans rfl, (blk_cell BK367.out 2).trans rfl, (blk_cell BK367.out 3).trans rfl, (blk_cell BK367.out 4).trans rfl, (blk_cell BK368.out 0).trans rfl, (blk_cell BK368.out 1).trans rfl, (blk_cell BK368.out 2).trans rfl, (blk_cell BK368.out 3).trans rfl, (blk_cell BK368.out 4).trans rfl⟩ (fun hHeld => ?_)
         clear hK K
         refine nA_ 30 ?_
         refine one_ (i := 18) (N := some 32) (ml_ 40 524287) rfl rfl (one_of HT_.out (by kernel_rfl)) (by decide) (fun K hK => ?_)
         refine goes_ Try.func16 (by kernel_rfl) rfl #[.agg #[.int .i64 a0_0, .string a0_1, .slice A0_2 l0_2.length c0_2, .slice A0_3 l0_3.length c0_3, .int .i64 a0_4]] (by rfl) rfl rfl qM_ ?_
         with_reducible refine (caravanref5_Type.calls a0_0 a0_1 _ _ l0_2 _ _ l0_3 a0_4 t377 _ ?side1 ?side2 ?side3 ?side4 A28.out).mono ?_
         (case side1 => exact qC_ ((Kd.C_below HR0_2.out HB.out)))
         (case side2 => exact HC0_2.out)
         (case side3 => exact qC_ ((Kd.C_below HR0_3.out HB.out)))
         (case side4 => exact HC0_3.out)
         rintro e w57 ⟨rfl, hb⟩
         refine ⟨_, rfl, ?_⟩
         have n0_ := Aside0.mk (blk_below (g := gb367) (o := .cells #[.int .i64 a0_0, .string a0_1, .slice A0_2 l0_2.length c0_2, .slice A0_3 l0_3.length c0_3, .int .i64 a0_4] 26 (0, 0)) (q3_ BK367.out) hb)
         have n1_ := Aside0.mk (blk_below (g := gb368) (o := .cells #[.int .i64 a1_0, .string a1_1, .slice A1_2 l1_2.length c1_2, .slice A1_3 l1_3.length c1_3, .int .i64 a1_4] 26 (0, 0)) (q3_ BK368.out) hb)
         have n2_ := Aside0.mk (below_step (q5_ HB.out GE367.out GE368.out) hb)
         clear BK367
         clear BK368
         clear HB
         have BK367 := n0_
         have BK368 := n1_
         have HB := n2_
         clear n0_ n1_ n2_
         (try clear hb)
         (try clear hb2)
         (try clear hk)
         (try clear hi)
         refine hK.out _ _ ⟨(blk_cell BK367.out 0).trans rfl, (blk_cell BK367.out 1).trans rfl, (blk_cell BK367.out 2).trans rfl, (blk_cell BK367.out 3).trans rfl, (blk_cell BK367.out 4).trans rfl, (blk_cell BK368.out 0).trans rfl, (blk_cell BK368.out 1).trans rfl, (blk_cell BK368.out 2).trans rfl, (blk_cell BK368.out 3).trans rfl, (blk_cell BK368.out 4).trans rfl⟩ (fun hHeld => ?_)
         clear hK K
         refine nA_ 32 ?_
         refine pA_ 19 33 (ml_ 40 1048575) rfl rfl HT_.out ?_
         refine pA_ 20 34 (ml_ 40 2097151) rfl rfl HT_.out ?_
         refine pA_ 21 35 (ml_ 40 4194303) rfl rfl HT_.out ?_
         refine t10_ 22 36 (ml_ 40 8388607) rfl rfl HT_.out HW_.out hHeld ?_
         refine t10_ 23 37 (ml_ 40 16777215) rfl rfl HT_.out HW_.out hHeld ?_
         refine t10_ 25 39 (ml_ 40 50331647) rfl rfl HT_.out HW_.out hHeld ?_
         refine t10_ 26 40 (ml_ 40 117440511) rfl rfl HT_.out HW_.out hHeld ?_
         refine one_ (i := 24) (N := some 38) (ml_ 40 134217727) rfl rfl (one_of HT_.out (by kernel_rfl)) (by decide) (fun K hK => ?_)
         refine goes_ Try.func17 (by kernel_rfl) rfl #[.agg #[.int .i64 a0_0, .string a0_1, .slice A0_2 l0_2.length c0_2, .slice A0_3 l0_3.length c0_3, .int .i64 a0_4], .agg #[.int .i64 a1_0, .string a1_1, .slice A1_2 l1_2.length c1_2, .slice A1_3 l1_3.length c1_3, .int .i64 a1_4]] (by rfl) rfl rfl qM_ ?_
         with_reducible refine (item_Same.calls kj3 a0_0 a0_1 _ _ l0_2 _ _ l0_3 a0_4 a1_0 a1_1 _ _ l1_2 _ _ l1_3 a1_4 t378 _ ?side1 ?side2 ?side3 ?side4 ?side5 ?side6 ?side7 ?side8 A30.out).mono ?_
         (case side1 => exact qC_ ((Kd.C_below HR0_2.out HB.out)))
         (case side2 => exact HC0_2.out)
         (case side3 => exact qC_ ((Kd.C_below HR0_3.out HB.out)))
         (case side4 => exact HC0_3.out)
         (case side5 => exact qC_ ((Kd.C_below HR1_2.out HB.out)))
         (case side6 => exact HC1_2.out)
         (case side7 => exact qC_ ((Kd.C_below HR1_3.out HB.out)))
         (case side8 => exact HC1_3.out)
         rintro e w58 ⟨rfl, hb⟩
         refine ⟨_, rfl, ?_⟩
         have n0_ := Aside0.mk (blk_below (g := gb367) (o := .cells #[.int .i64 a0_0, .string a0_1, .slice A0_2 l0_2.length c0_2, .slice A0_3 l0_3.length c0_3, .int .i64 a0_4] 26 (0, 0)) (q3_ BK367.out) hb)
         have n1_ := Aside0.mk (blk_below (g := gb368) (o := .cells #[.int .i64 a1_0, .string a1_1, .slice A1_2 l1_2.length c1_2, .slice A1_3 l1_3.length c1_3, .int .i64 a1_4] 26 (0, 0)) (q3_ BK368.out) hb)
         have n2_ := Aside0.mk (below_step (q5_ HB.out GE367.out GE368.out) hb)
         clear BK367
         clear BK368
         clear HB
         have BK367 := n0_
         have BK368 := n1_
         have HB := n2_
         clear n0_ n1_ n2_
         (try clear hb)
         (try clear hb2)
         (try clear hk)
         (try clear hi)
         refine hK.out _ _ ⟨(blk_cell BK367.out 0).trans rfl, (blk_cell BK367.out 1).trans rfl, (blk_cell BK367.out 2).trans rfl, (blk_cell BK367.out 3).trans rfl, (blk_cell BK367.out 4).trans rfl, (blk_cell BK368.out 0).trans rfl, (blk_cell BK368.out 1).trans rfl, (blk_cell BK368.out 2).trans rfl, (blk_cell BK368.out 3).trans rfl, (blk_cell BK368.out 4).trans rfl⟩ (fun hHeld => ?_)
         clear hK K
         refine nA_ 38 ?_
         refine one_ (i := 27) (N := some 41) (ml_ 40 268435455) rfl rfl (one_of HT_.out (by kernel_rfl)) (by decide) (fun K hK => ?_)
         refine goes_ Try.func18 (by kernel_rfl) rfl #[.agg #[.int .i64 a0_0, .string a0_1, .slice A0_2 l0_2.length c0_2, .slice A0_3 l0_3.length c0_3, .int .i64 a0_4], .agg #[.int .i64 a1_0, .string a1_1, .slice A1_2 l1_2.length c1_2, .slice A1_3 l1_3.length c1_3, .int .i64 a1_4]] (by rfl) rfl rfl qM_ ?_
         with_reducible refine (caravanref5_SameItem.calls kj3 a0_0 a0_1 _ _ l0_2 _ _ l0_3 a0_4 a1_0 a1_1 _ _ l1_2 _ _ l1_3 a1_4 t379 _ ?side1 ?side2 ?side3 ?side4 ?side5 ?side6 ?side7 ?side8 A31.out).mono ?_
         (case side1 => exact qC_ ((Kd.C_below HR0_2.out HB.out)))
         (case side2 => exact HC0_2.out)
         (case side3 => exact qC_ ((Kd.C_below HR0_3.out HB.out)))
         (case side4 => exact HC0_3.out)
         (case side5 => exact qC_ ((Kd.C_below HR1_2.out HB.out)))
         (case side6 => exact HC1_2.out)
         (case side7 => exact qC_ ((Kd.C_below HR1_3.out HB.out)))
         (case side8 => exact HC1_3.out)
         rintro e w59 ⟨rfl, hb⟩
         refine ⟨_, rfl, ?_⟩
         have n0_ := Aside0.mk (blk_below (g := gb367) (o := .cells #[.int .i64 a0_0, .string a0_1, .slice A0_2 l0_2.length c0_2, .slice A0_3 l0_3.length c0_3, .int .i64 a0_4] 26 (0, 0)) (q3_ BK367.out) hb)
         have n1_ := Aside0.mk (blk_below (g := gb368) (o := .cells #[.int .i64 a1_0, .string a1_1, .slice A1_2 l1_2.length c1_2, .slice A1_3 l1_3.length c1_3, .int .i64 a1_4] 26 (0, 0)) (q3_ BK368.out) hb)
         have n2_ := Aside0.mk (below_step (q5_ HB.out GE367.out GE368.out) hb)
         clear BK367
         clear BK368
         clear HB
         have BK367 := n0_
         have BK368 := n1_
         have HB := n2_
         clear n0_ n1_ n2_
         (try clear hb)
         (try clear hb2)
         (try clear hk)
         (try clear hi)
         refine hK.out _ _ ⟨(blk_cell BK367.out 0).trans rfl, (blk_cell BK367.out 1).trans rfl, (blk_cell BK367.out 2).trans rfl, (blk_cell BK367.out 3).trans rfl, (blk_cell BK367.out 4).trans rfl, (blk_cell BK368.out 0).trans rfl, (blk_cell BK368.out 1).trans rfl, (blk_cell BK368.out 2).trans rfl, (blk_cell BK368.out 3).trans rfl, (blk_cell BK368.out 4).trans rfl⟩ (fun hHeld => ?_)
         clear hK K
         refine nA_ 41 ?_
         refine pA_ 28 42 (ml_ 40 536870911) rfl rfl HT_.out ?_
         refine pA_ 29 43 (ml_ 40 1073741823) rfl rfl HT_.out ?_
         refine pA_ 30 44 (ml_ 40 2147483647) rfl rfl HT_.out ?_
         refine t10_ 31 45 (ml_ 40 4294967295) rfl rfl HT_.out HW_.out hHeld ?_
         refine t10_ 33 47 (ml_ 40 12884901887) rfl rfl HT_.out HW_.out hHeld ?_
         refine one_ (i := 32) (N := some 46) (ml_ 40 17179869183) rfl rfl (one_of HT_.out (by kernel_rfl)) (by decide) (fun K hK => ?_)
         refine goes_ Try.func19 (by kernel_rfl) rfl #[.agg #[.int .i64 a0_0, .string a0_1, .slice A0_2 l0_2.length c0_2, .slice A0_3 l0_3.length c0_3, .int .i64 a0_4]] (by rfl) rfl rfl qM_ ?_
         with_reducible refine (item_Copy.calls a0_0 a0_1 _ _ l0_2 _ _ l0_3 a0_4 t380 t381 t382 t385 t388 _ ?side1 ?side2 ?side3 ?side4 A33.out).mono ?_
         (case side1 => exact qC_ ((Kd.C_below HR0_2.out HB.out)))
         (case side2 => exact HC0_2.out)
         (case side3 => exact qC_ ((Kd.C_below HR0_3.out HB.out)))
         (case side4 => exact HC0_3.out)
         rintro e w60 ⟨v383, v386, rfl, ho0, ho1, hb⟩
         refine ⟨_, rfl, ?_⟩
         have n0_ := Aside0.mk (Kd.R_lower ho0 (below_size (q5_ HB.out GE367.out GE368.out)))
         have n1_ := Aside0.mk (Kd.R_lower ho1 (below_size (q5_ HB.out GE367.out GE368.out)))
         have n2_ := Aside0.mk (blk_below (g := gb367) (o := .cells #[.int .i64 a0_0, .string a0_1, .slice A0_2 l0_2.length c0_2, .slice A0_3 l0_3.length c0_3, .int .i64 a0_4] 26 (0, 0)) (q3_ BK367.out) hb)
         have n3_ := Aside0.mk (blk_below (g := gb368) (o := .cells #[.int .i64 a1_0, .string a1_1, .slice A1_2 l1_2.length c1_2, .slice A1_3 l1_3.length c1_3, .int .i64 a1_4] 26 (0, 0)) (q3_ BK368.out) hb)
         have n4_ := Aside0.mk (below_step (q5_ HB.out GE367.out GE368.out) hb)
         clear BK367
         clear BK368
         clear HB
         have HO384 := n0_
         have HO387 := n1_
         have BK367 := n2_
         have BK368 := n3_
         have HB := n4_
         clear n0_ n1_ n2_ n3_ n4_
         (try clear hb)
         (try clear hb2)
         (try clear hk)
         (try clear hi)
         (try clear ho0)
         (try clear ho1)
         obtain ⟨Ao61, co61, eo61⟩ := Kd.R_slice HO384.out
         (first | subst eo61 | (injection eo61 with f1_ f2_ f3_; have f4_ := f1_.symm; have f5_ := f3_.symm; clear f1_ f2_ f3_; subst f4_; subst f5_))
         obtain ⟨Ao62, co62, eo62⟩ := Kd.R_slice HO387.out
         (first | subst eo62 | (injection eo62 with f1_ f2_ f3_; have f4_ := f1_.symm; have f5_ := f3_.symm; clear f1_ f2_ f3_; subst f4_; subst f5_))
         refine hK.out _ _ ⟨(blk_cell BK367.out 0).trans rfl, (blk_cell BK367.out 1).trans rfl, (blk_cell BK367.out 2).trans rfl, (blk_cell BK367.out 3).trans rfl, (blk_cell BK367.out 4).trans rfl, (blk_cell BK368.out 0).trans rfl, (blk_cell BK368.out 1).trans rfl, (blk_cell BK368.out 2).trans rfl, (blk_cell BK368.out 3).trans rfl, (blk_cell BK368.out 4).trans rfl⟩ (fun hHeld => ?_)
         clear hK K
         refine nA_ 46 ?_
         refine one_ (i := 34) (N := some 48) (ml_ 40 34359738367) rfl rfl (one_of HT_.out (by kernel_rfl)) (by decide) (fun K hK => ?_)
         refine goes_ Try.func18 (by kernel_rfl) rfl #[.agg #[.int .i64 t380, .string t381, .slice Ao61 t382.length co61, .slice Ao62 t385.length co62, .int .i64 t388], .agg #[.int .i64 a0_0, .string a0_1, .slice A0_2 l0_2.length c0_2, .slice A0_3 l0_3.length c0_3, .int .i64 a0_4]] (by rfl) rfl rfl qM_ ?_
         with_reducible refine (caravanref5_SameItem.calls kj3 t380 t381 _ _ t382 _ _ t385 t388 a0_0 a0_1 _ _ l0_2 _ _ l0_3 a0_4 false _ ?side1 ?side2 ?side3 ?side4 ?side5 ?side6 ?side7 ?side8 A34.out).mono ?_
         (case side1 => exact qC_ ((Kd.R_reads' HO384.out).2.2))
         (case side2 => exact (Kd.R_reads' HO384.out).2.1)
         (case side3 => exact qC_ ((Kd.R_reads' HO387.out).2.2))
         (case side4 => exact (Kd.R_reads' HO387.out).2.1)
         (case side5 => exact qC_ ((Kd.C_below HR0_2.out HB.out)))
         (case side6 => exact HC0_2.out)
         (case side7 => exact qC_ ((Kd.C_below HR0_3.out HB.out)))
         (case side8 => exact HC0_3.out)
         rintro e w63 ⟨rfl, hb⟩
         refine ⟨_, rfl, ?_⟩
         have n0_ := Aside0.mk (Kd.R_below (q1_ HO384.out) hb)
         have n1_ := Aside0.mk (Kd.R_below (q1_ HO387.out) hb)
         have n2_ := Aside0.mk (blk_below (g := gb367) (o := .cells #[.int .i64 a0_0, .string a0_1, .slice A0_2 l0_2.length c0_2, .slice A0_3 l0_3.length c0_3, .int .i64 a0_4] 26 (0, 0)) (q3_ BK367.out) hb)
         have n3_ := Aside0.mk (blk_below (g := gb368) (o := .cells #[.int .i64 a1_0, .string a1_1, .slice A1_2 l1_2.length c1_2, .slice A1_3 l1_3.length c1_3, .int .i64 a1_4] 26 (0, 0)) (q3_ BK368.out) hb)
         have n4_ := Aside0.mk (below_step (q5_ HB.out GE367.out GE368.out) hb)
         clear HO384
         clear HO387
         clear BK367
         clear BK368
         clear HB
         have HO384 := n0_
         have HO387 := n1_
         have BK367 := n2_
         have BK368 := n3_
         have HB := n4_
         clear n0_ n1_ n2_ n3_ n4_
         (try clear hb)
         (try clear hb2)
         (try clear hk)
         (try clear hi)
         refine hK.out _ _ ⟨(blk_cell BK367.out 0).trans rfl, (blk_cell BK367.out 1).trans rfl, (blk_cell BK367.out 2).trans rfl, (blk_cell BK367.out 3).trans rfl, (blk_cell BK367.out 4).trans rfl, (blk_cell BK368.out 0).trans rfl, (blk_cell BK368.out 1).trans rfl, (blk_cell BK368.out 2).trans rfl, (blk_cell BK368.out 3).trans rfl, (blk_cell BK368.out 4).trans rfl⟩ (fun hHeld => ?_)
         clear hK K
         refine nA_ 48 ?_
         refine pA_ 35 49 (ml_ 40 68719476735) rfl rfl HT_.out ?_
         refine pA_ 36 50 (ml_ 40 137438953471) rfl rfl HT_.out ?_
         refine pU_ 37 51 (ml_ 40 274877906943) rfl rfl HT_.out ?_
         refine pA_ 38 52 (ml_ 40 549755813887) rfl rfl HT_.out ?_
         refine pA_ 39 6 (ml_ 40 1099511627775) rfl rfl HT_.out ?_
         refine done_ (done_of HT_.out (by kernel_rfl)) ?_
         try go_wp2
         go_ret
         exact ⟨by first | rfl | (simp [errW_none, errW_some] <;> rfl) | (simp [*, errW_none, errW_some] <;> rfl), (q5_ HB.out GE367.out GE368.out)⟩
       ·rw [if_neg c32] at H
        have c32b0 : (t378 == t379) = false := by simpa using c32
        (try (have c32b1 : decide (t378 = t379) = false := by simpa using c32))
        (try (have c32b2 : (t378 == t379) = false := by simpa using c32))
        (try (have c32b3 : ¬ (t378 = t379) := by simpa using c32))
        clear c32
        obtain rfl := Option.some.inj H
        try go_wp2
        have n0_ := Aside0.mk (blk_drew BK367.out)
        have n1_ := Aside0.mk (blk_drew BK368.out)
        have n2_ := Aside0.mk (below_drew1 HB.out)
        clear BK367
        clear BK368
        clear HB
        have BK367 := n0_
        have BK368 := n1_
        have HB := n2_
        clear n0_ n1_ n2_
        refine start_ (n := 40) (S := fun w' => w'.cell? ⟨gb367, 0, none⟩ = some (.int .i64 a0_0) ∧ w'.cell? ⟨gb367, 1, none⟩ = some (.string a0_1) ∧ w'.cell? ⟨gb367, 2, none⟩ = some (.slice A0_2 l0_2.length c0_2) ∧ w'.cell? ⟨gb367, 3, none⟩ = some (.slice A0_3 l0_3.length c0_3) ∧ w'.cell? ⟨gb367, 4, none⟩ = some (.int .i64 a0_4) ∧ w'.cell? ⟨gb368, 0, none⟩ = some (.int .i64 a1_0) ∧ w'.cell? ⟨gb368, 1, none⟩ = some (.string a1_1) ∧ w'.cell? ⟨gb368, 2, none⟩ = some (.slice A1_2 l1_2.length c1_2) ∧ w'.cell? ⟨gb368, 3, none⟩ = some (.slice A1_3 l1_3.length c1_3) ∧ w'.cell? ⟨gb368, 4, none⟩ = some (.int .i64 a1_4)) (ds := []) (ml_ 40 0) (by kernel_rfl) rfl rfl ⟨(blk_cell BK367.out 0).trans rfl, (blk_cell BK367.out 1).trans rfl, (blk_cell BK367.out 2).trans rfl, (blk_cell BK367.out 3).trans rfl, (blk_cell BK367.out 4).trans rfl, (blk_cell BK368.out 0).trans rfl, (blk_cell BK368.out 1).trans rfl, (blk_cell BK368.out 2).trans rfl, (blk_cell BK368.out 3).trans rfl, (blk_cell BK368.out 4).trans rfl⟩ (fun hHeld => ?_); refine with_tabW caravanlaw5_ItemAll.tab3 caravanlaw5_ItemAll.bits3 (fun HT_ HW_ => ?_)
        generalize wc.drew = w64 at BK367 BK368 HB hHeld ⊢
        refine t10_ 0 14 (ml_ 40 1) rfl rfl HT_.out HW_.out hHeld ?_
        refine t10_ 2 16 (ml_ 40 5) rfl rfl HT_.out HW_.out hHeld ?_
        refine one_ (i := 1) (N := some 15) (ml_ 40 7) rfl rfl (one_of HT_.out (by kernel_rfl)) (by decide) (fun K hK => ?_)
        refine goes_ Try.func9 (by kernel_rfl) rfl #[.agg #[.int .i64 a0_0, .string a0_1, .slice A0_2 l0_2.length c0_2, .slice A0_3 l0_3.length c0_3, .int .i64 a0_4]] (by rfl) rfl rfl qM_ ?_
        with_reducible refine (item_May.calls a0_0 a0_1 _ _ l0_2 _ _ l0_3 a0_4 t372 _ ?side1 ?side2 ?side3 ?side4 A21.out).mono ?_
        (case side1 => exact qC_ ((Kd.C_below HR0_2.out HB.out)))
        (case side2 => exact HC0_2.out)
        (case side3 => exact qC_ ((Kd.C_below HR0_3.out HB.out)))
        (case side4 => exact HC0_3.out)
        rintro e w65 ⟨rfl, hb⟩
        refine ⟨_, rfl, ?_⟩
        have n0_ := Aside0.mk (blk_below (g := gb367) (o := .cells #[.int .i64 a0_0, .string a0_1, .slice A0_2 l0_2.length c0_2, .slice A0_3 l0_3.length c0_3, .int .i64 a0_4] 26 (0, 0)) (q3_ BK367.out) hb)
        have n1_ := Aside0.mk (blk_below (g := gb368) (o := .cells #[.int .i64 a1_0, .string a1_1, .slice A1_2 l1_2.length c1_2, .slice A1_3 l1_3.length c1_3, .int .i64 a1_4] 26 (0, 0)) (q3_ BK368.out) hb)
        have n2_ := Aside0.mk (below_step (q5_ HB.out GE367.out GE368.out) hb)
        clear BK367
        clear BK368
        clear HB
        have BK367 := n0_
        have BK368 := n1_
        have HB := n2_
        clear n0_ n1_ n2_
        (try clear hb)
        (try clear hb2)
        (try clear hk)
        (try clear hi)
        refine hK.out _ _ ⟨(blk_cell BK367.out 0).trans rfl, (blk_cell BK367.out 1).trans rfl, (blk_cell BK367.out 2).trans rfl, (blk_cell BK367.out 3).trans rfl, (blk_cell BK367.out 4).trans rfl, (blk_cell BK368.out 0).trans rfl, (blk_cell BK368.out 1).trans rfl, (blk_cell BK368.out 2).trans rfl, (blk_cell BK368.out 3).trans rfl, (blk_cell BK368.out 4).trans rfl⟩ (fun hHeld => ?_)
        clear hK K
        refine nA_ 15 ?_
        refine one_ (i := 3) (N := some 17) (ml_ 40 15) rfl rfl (one_of HT_.out (by kernel_rfl)) (by decide) (fun K hK => ?_)
        refine goes_ Try.func12 (by kernel_rfl) rfl #[.agg #[.int .i64 a0_0, .string a0_1, .slice A0_2 l0_2.length c0_2, .slice A0_3 l0_3.length c0_3, .int .i64 a0_4]] (by rfl) rfl rfl qM_ ?_
        with_reducible refine (caravanref5_MayItem.calls kj3 a0_0 a0_1 _ _ l0_2 _ _ l0_3 a0_4 t373 _ ?side1 ?side2 ?side3 ?side4 A22.out).mono ?_
        (case side1 => exact qC_ ((Kd.C_below HR0_2.out HB.out)))
        (case side2 => exact HC0_2.out)
        (case side3 => exact qC_ ((Kd.C_below HR0_3.out HB.out)))
        (case side4 => exact HC0_3.out)
        rintro e w66 ⟨rfl, hb⟩
        refine ⟨_, rfl, ?_⟩
        have n0_ := Aside0.mk (blk_below (g := gb367) (o := .cells #[.int .i64 a0_0, .string a0_1, .slice A0_2 l0_2.length c0_2, .slice A0_3 l0_3.length c0_3, .int .i64 a0_4] 26 (0, 0)) (q3_ BK367.out) hb)
        have n1_ := Aside0.mk (blk_below (g := gb368) (o := .cells #[.int .i64 a1_0, .string a1_1, .slice A1_2 l1_2.length c1_2, .slice A1_3 l1_3.length c1_3, .int .i64 a1_4] 26 (0, 0)) (q3_ BK368.out) hb)
        have n2_ := Aside0.mk (below_step (q5_ HB.out GE367.out GE368.out) hb)
        clear BK367
        clear BK368
        clear HB
        have BK367 := n0_
        have BK368 := n1_
        have HB := n2_
        clear n0_ n1_ n2_
        (try clear hb)
        (try clear hb2)
        (try clear hk)
        (try clear hi)
        refine hK.out _ _ ⟨(blk_cell BK367.out 0).trans rfl, (blk_cell BK367.out 1).trans rfl, (blk_cell BK367.out 2).trans rfl, (blk_cell BK367.out 3).trans rfl, (blk_cell BK367.out 4).trans rfl, (blk_cell BK368.out 0).trans rfl, (blk_cell BK368.out 1).trans rfl, (blk_cell BK368.out 2).trans rfl, (blk_cell BK368.out 3).trans rfl, (blk_cell BK368.out 4).trans rfl⟩ (fun hHeld => ?_)
        clear hK K
        refine nA_ 17 ?_
        refine pA_ 4 18 (ml_ 40 31) rfl rfl HT_.out ?_
        refine pA_ 5 19 (ml_ 40 63) rfl rfl HT_.out ?_
        refine pA_ 7 21 (ml_ 40 191) rfl rfl HT_.out ?_
        refine pA_ 10 24 (ml_ 40 1215) rfl rfl HT_.out ?_
        refine t10_ 6 20 (ml_ 40 1279) rfl rfl HT_.out HW_.out hHeld ?_
        refine t10_ 9 23 (ml_ 40 1791) rfl rfl HT_.out HW_.out hHeld ?_
        refine one_ (i := 8) (N := some 22) (ml_ 40 2047) rfl rfl (one_of HT_.out (by kernel_rfl)) (by decide) (fun K hK => ?_)
        refine goes_ Try.func13 (by kernel_rfl) rfl #[.agg #[.int .i64 a0_0, .string a0_1, .slice A0_2 l0_2.length c0_2, .slice A0_3 l0_3.length c0_3, .int .i64 a0_4], .int .i64 a2] (by rfl) rfl rfl qM_ ?_
        with_reducible refine (item_Alive.calls a0_0 a0_1 _ _ l0_2 _ _ l0_3 a0_4 a2 t374 _ ?side1 ?side2 ?side3 ?side4 A24.out).mono ?_
        (case side1 => exact qC_ ((Kd.C_below HR0_2.out HB.out)))
        (case side2 => exact HC0_2.out)
        (case side3 => exact qC_ ((Kd.C_below HR0_3.out HB.out)))
        (case side4 => exact HC0_3.out)
        rintro e w67 ⟨rfl, hb⟩
        refine ⟨_, rfl, ?_⟩
        have n0_ := Aside0.mk (blk_below (g := gb367) (o := .cells #[.int .i64 a0_0, .string a0_1, .slice A0_2 l0_2.length c0_2, .slice A0_3 l0_3.length c0_3, .int .i64 a0_4] 26 (0, 0)) (q3_ BK367.out) hb)
        have n1_ := Aside0.mk (blk_below (g := gb368) (o := .cells #[.int .i64 a1_0, .string a1_1, .slice A1_2 l1_2.length c1_2, .slice A1_3 l1_3.length c1_3, .int .i64 a1_4] 26 (0, 0)) (q3_ BK368.out) hb)
        have n2_ := Aside0.mk (below_step (q5_ HB.out GE367.out GE368.out) hb)
        clear BK367
        clear BK368
        clear HB
        have BK367 := n0_
        have BK368 := n1_
        have HB := n2_
        clear n0_ n1_ n2_
        (try clear hb)
        (try clear hb2)
        (try clear hk)
        (try clear hi)
        refine hK.out _ _ ⟨(blk_cell BK367.out 0).trans rfl, (blk_cell BK367.out 1).trans rfl, (blk_cell BK367.out 2).trans rfl, (blk_cell BK367.out 3).trans rfl, (blk_cell BK367.out 4).trans rfl, (blk_cell BK368.out 0).trans rfl, (blk_cell BK368.out 1).trans rfl, (blk_cell BK368.out 2).trans rfl, (blk_cell BK368.out 3).trans rfl, (blk_cell BK368.out 4).trans rfl⟩ (fun hHeld => ?_)
        clear hK K
        refine nA_ 22 ?_
        refine one_ (i := 11) (N := some 25) (ml_ 40 4095) rfl rfl (one_of HT_.out (by kernel_rfl)) (by decide) (fun K hK => ?_)
        refine goes_ Try.func14 (by kernel_rfl) rfl #[.agg #[.int .i64 a0_0, .string a0_1, .slice A0_2 l0_2.length c0_2, .slice A0_3 l0_3.length c0_3, .int .i64 a0_4], .int .i64 a2] (by rfl) rfl rfl qM_ ?_
        with_reducible refine (caravanref5_Alive.calls a0_0 a0_1 _ _ l0_2 _ _ l0_3 a0_4 a2 t375 _ ?side1 ?side2 ?side3 ?side4 A25.out).mono ?_
        (case side1 => exact qC_ ((Kd.C_below HR0_2.out HB.out)))
        (case side2 => exact HC0_2.out)
        (case side3 => exact qC_ ((Kd.C_below HR0_3.out HB.out)))
        (case side4 => exact HC0_3.out)
        rintro e w68 ⟨rfl, hb⟩
        refine ⟨_, rfl, ?_⟩
        have n0_ := Aside0.mk (blk_below (g := gb367) (o := .cells #[.int .i64 a0_0, .string a0_1, .slice A0_2 l0_2.length c0_2, .slice A0_3 l0_3.length c0_3, .int .i64 a0_4] 26 (0, 0)) (q3_ BK367.out) hb)
        have n1_ := Aside0.mk (blk_below (g := gb368) (o := .cells #[.int .i64 a1_0, .string a1_1, .slice A1_2 l1_2.length c1_2, .slice A1_3 l1_3.length c1_3, .int .i64 a1_4] 26 (0, 0)) (q3_ BK368.out) hb)
        have n2_ := Aside0.mk (below_step (q5_ HB.out GE367.out GE368.out) hb)
        clear BK367
        clear BK368
        clear HB
        have BK367 := n0_
        have BK368 := n1_
        have HB := n2_
        clear n0_ n1_ n2_
        (try clear hb)
        (try clear hb2)
        (try clear hk)
        (try clear hi)
        refine hK.out _ _ ⟨(blk_cell BK367.out 0).trans rfl, (blk_cell BK367.out 1).trans rfl, (blk_cell BK367.out 2).trans rfl, (blk_cell BK367.out 3).trans rfl, (blk_cell BK367.out 4).trans rfl, (blk_cell BK368.out 0).trans rfl, (blk_cell BK368.out 1).trans rfl, (blk_cell BK368.out 2).trans rfl, (blk_cell BK368.out 3).trans rfl, (blk_cell BK368.out 4).trans rfl⟩ (fun hHeld => ?_)
        clear hK K
        refine nA_ 25 ?_
        refine pA_ 12 26 (ml_ 40 8191) rfl rfl HT_.out ?_
        refine pA_ 13 27 (ml_ 40 16383) rfl rfl HT_.out ?_
        refine pA_ 14 28 (ml_ 40 32767) rfl rfl HT_.out ?_
        refine t10_ 15 29 (ml_ 40 65535) rfl rfl HT_.out HW_.out hHeld ?_
        refine t10_ 17 31 (ml_ 40 196607) rfl rfl HT_.out HW_.out hHeld ?_
        refine one_ (i := 16) (N := some 30) (ml_ 40 262143) rfl rfl (one_of HT_.out (by kernel_rfl)) (by decide) (fun K hK => ?_)
        refine goes_ Try.func15 (by kernel_rfl) rfl #[.agg #[.int .i64 a0_0, .string a0_1, .slice A0_2 l0_2.length c0_2, .slice A0_3 l0_3.length c0_3, .int .i64 a0_4]] (by rfl) rfl rfl qM_ ?_
        with_reducible refine (item_Type.calls a0_0 a0_1 _ _ l0_2 _ _ l0_3 a0_4 t376 _ ?side1 ?side2 ?side3 ?side4 A27.out).mono ?_
        (case side1 => exact qC_ ((Kd.C_below HR0_2.out HB.out)))
        (case side2 => exact HC0_2.out)
        (case side3 => exact qC_ ((Kd.C_below HR0_3.out HB.out)))
        (case side4 => exact HC0_3.out)
        rintro e w69 ⟨rfl, hb⟩
        refine ⟨_, rfl, ?_⟩
        have n0_ := Aside0.mk (blk_below (g := gb367) (o := .cells #[.int .i64 a0_0, .string a0_1, .slice A0_2 l0_2.length c0_2, .slice A0_3 l0_3.length c0_3, .int .i64 a0_4] 26 (0, 0)) (q3_ BK367.out) hb)
        have n1_ := Aside0.mk (blk_below (g := gb368) (o := .cells #[.int .i64 a1_0, .string a1_1, .slice A1_2 l1_2.length c1_2, .slice A1_3 l1_3.length c1_3, .int .i64 a1_4] 26 (0, 0)) (q3_ BK368.out) hb)
        have n2_ := Aside0.mk (below_step (q5_ HB.out GE367.out GE368.out) hb)
        clear BK367
        clear BK368
        clear HB
        have BK367 := n0_
        have BK368 := n1_
        have HB := n2_
        clear n0_ n1_ n2_
        (try clear hb)
        (try clear hb2)
        (try clear hk)
        (try clear hi)
        refine hK.out _ _ ⟨(blk_cell BK367.out 0).trans rfl, (blk_cell BK367.out 1).trans rfl, (blk_cell BK367.out 2).trans rfl, (blk_cell BK367.out 3).trans rfl, (blk_cell BK367.out 4).trans rfl, (blk_cell BK368.out 0).trans rfl, (blk_cell BK368.out 1).trans rfl, (blk_cell BK368.out 2).trans rfl, (blk_cell BK368.out 3).trans rfl, (blk_cell BK368.out 4).trans rfl⟩ (fun hHeld => ?_)
        clear hK K
        refine nA_ 30 ?_
        refine one_ (i := 18) (N := some 32) (ml_ 40 524287) rfl rfl (one_of HT_.out (by kernel_rfl)) (by decide) (fun K hK => ?_)
        refine goes_ Try.func16 (by kernel_rfl) rfl #[.agg #[.int .i64 a0_0, .string a0_1, .slice A0_2 l0_2.length c0_2, .slice A0_3 l0_3.length c0_3, .int .i64 a0_4]] (by rfl) rfl rfl qM_ ?_
        with_reducible refine (caravanref5_Type.calls a0_0 a0_1 _ _ l0_2 _ _ l0_3 a0_4 t377 _ ?side1 ?side2 ?side3 ?side4 A28.out).mono ?_
        (case side1 => exact qC_ ((Kd.C_below HR0_2.out HB.out)))
        (case side2 => exact HC0_2.out)
        (case side3 => exact qC_ ((Kd.C_below HR0_3.out HB.out)))
        (case side4 => exact HC0_3.out)
        rintro e w70 ⟨rfl, hb⟩
        refine ⟨_, rfl, ?_⟩
        have n0_ := Aside0.mk (blk_below (g := gb367) (o := .cells #[.int .i64 a0_0, .string a0_1, .slice A0_2 l0_2.length c0_2, .slice A0_3 l0_3.length c0_3, .int .i64 a0_4] 26 (0, 0)) (q3_ BK367.out) hb)
        have n1_ := Aside0.mk (blk_below (g := gb368) (o := .cells #[.int .i64 a1_0, .string a1_1, .slice A1_2 l1_2.length c1_2, .slice A1_3 l1_3.length c1_3, .int .i64 a1_4] 26 (0, 0)) (q3_ BK368.out) hb)
        have n2_ := Aside0.mk (below_step (q5_ HB.out GE367.out GE368.out) hb)
        clear BK367
        clear BK368
        clear HB
        have BK367 := n0_
        have BK368 := n1_
        have HB := n2_
        clear n0_ n1_ n2_
        (try clear hb)
        (try clear hb2)
        (try clear hk)
        (try clear hi)
        refine hK.out _ _ ⟨(blk_cell BK367.out 0).trans rfl, (blk_cell BK367.out 1).trans rfl, (blk_cell BK367.out 2).trans rfl, (blk_cell BK367.out 3).trans rfl, (blk_cell BK367.out 4).trans rfl, (blk_cell BK368.out 0).trans rfl, (blk_cell BK368.out 1).trans rfl, (blk_cell BK368.out 2).trans rfl, (blk_cell BK368.out 3).trans rfl, (blk_cell BK368.out 4).trans rfl⟩ (fun hHeld => ?_)
        clear hK K
        refine nA_ 32 ?_
        refine pA_ 19 33 (ml_ 40 1048575) rfl rfl HT_.out ?_
        refine pA_ 20 34 (ml_ 40 2097151) rfl rfl HT_.out ?_
        refine pA_ 21 35 (ml_ 40 4194303) rfl rfl HT_.out ?_
        refine t10_ 22 36 (ml_ 40 8388607) rfl rfl HT_.out HW_.out hHeld ?_
        refine t10_ 23 37 (ml_ 40 16777215) rfl rfl HT_.out HW_.out hHeld ?_
        refine t10_ 25 39 (ml_ 40 50331647) rfl rfl HT_.out HW_.out hHeld ?_
        refine t10_ 26 40 (ml_ 40 117440511) rfl rfl HT_.out HW_.out hHeld ?_
        refine one_ (i := 24) (N := some 38) (ml_ 40 134217727) rfl rfl (one_of HT_.out (by kernel_rfl)) (by decide) (fun K hK => ?_)
        refine goes_ Try.func17 (by kernel_rfl) rfl #[.agg #[.int .i64 a0_0, .string a0_1, .slice A0_2 l0_2.length c0_2, .slice A0_3 l0_3.length c0_3, .int .i64 a0_4], .agg #[.int .i64 a1_0, .string a1_1, .slice A1_2 l1_2.length c1_2, .slice A1_3 l1_3.length c1_3, .int .i64 a1_4]] (by rfl) rfl rfl qM_ ?_
        with_reducible refine (item_Same.calls kj3 a0_0 a0_1 _ _ l0_2 _ _ l0_3 a0_4 a1_0 a1_1 _ _ l1_2 _ _ l1_3 a1_4 t378 _ ?side1 ?side2 ?side3 ?side4 ?side5 ?side6 ?side7 ?side8 A30.out).mono ?_
        (case side1 => exact qC_ ((Kd.C_below HR0_2.out HB.out)))
        (case side2 => exact HC0_2.out)
        (case side3 => exact qC_ ((Kd.C_below HR0_3.out HB.out)))
        (case side4 => exact HC0_3.out)
        (case side5 => exact qC_ ((Kd.C_below HR1_2.out HB.out)))
        (case side6 => exact HC1_2.out)
        (case side7 => exact qC_ ((Kd.C_below HR1_3.out HB.out)))
        (case side8 => exact HC1_3.out)
        rintro e w71 ⟨rfl, hb⟩
        refine ⟨_, rfl, ?_⟩
        have n0_ := Aside0.mk (blk_below (g := gb367) (o := .cells #[.int .i64 a0_0, .string a0_1, .slice A0_2 l0_2.length c0_2, .slice A0_3 l0_3.length c0_3, .int .i64 a0_4] 26 (0, 0)) (q3_ BK367.out) hb)
        have n1_ := Aside0.mk (blk_below (g := gb368) (o := .cells #[.int .i64 a1_0, .string a1_1, .slice A1_2 l1_2.length c1_2, .slice A1_3 l1_3.length c1_3, .int .i64 a1_4] 26 (0, 0)) (q3_ BK368.out) hb)
        have n2_ := Aside0.mk (below_step (q5_ HB.out GE367.out GE368.out) hb)
        clear BK367
        clear BK368
        clear HB
        have BK367 := n0_
        have BK368 := n1_
        have HB := n2_
        clear n0_ n1_ n2_
        (try clear hb)
        (try clear hb2)
        (try clear hk)
        (try clear hi)
        refine hK.out _ _ ⟨(blk_cell BK367.out 0).trans rfl, (blk_cell BK367.out 1).trans rfl, (blk_cell BK367.out 2).trans rfl, (blk_cell BK367.out 3).trans rfl, (blk_cell BK367.out 4).trans rfl, (blk_cell BK368.out 0).trans rfl, (blk_cell BK368.out 1).trans rfl, (blk_cell BK368.out 2).trans rfl, (blk_cell BK368.out 3).trans rfl, (blk_cell BK368.out 4).trans rfl⟩ (fun hHeld => ?_)
        clear hK K
        refine nA_ 38 ?_
        refine one_ (i := 27) (N := some 41) (ml_ 40 268435455) rfl rfl (one_of HT_.out (by kernel_rfl)) (by decide) (fun K hK => ?_)
        refine goes_ Try.func18 (by kernel_rfl) rfl #[.agg #[.int .i64 a0_0, .string a0_1, .slice A0_2 l0_2.length c0_2, .slice A0_3 l0_3.length c0_3, .int .i64 a0_4], .agg #[.int .i64 a1_0, .string a1_1, .slice A1_2 l1_2.length c1_2, .slice A1_3 l1_3.length c1_3, .int .i64 a1_4]] (by rfl) rfl rfl qM_ ?_
        with_reducible refine (caravanref5_SameItem.calls kj3 a0_0 a0_1 _ _ l0_2 _ _ l0_3 a0_4 a1_0 a1_1 _ _ l1_2 _ _ l1_3 a1_4 t379 _ ?side1 ?side2 ?side3 ?side4 ?side5 ?side6 ?side7 ?side8 A31.out).mono ?_
        (case side1 => exact qC_ ((Kd.C_below HR0_2.out HB.out)))
        (case side2 => exact HC0_2.out)
        (case side3 => exact qC_ ((Kd.C_below HR0_3.out HB.out)))
        (case side4 => exact HC0_3.out)
        (case side5 => exact qC_ ((Kd.C_below HR1_2.out HB.out)))
        (case side6 => exact HC1_2.out)
        (case side7 => exact qC_ ((Kd.C_below HR1_3.out HB.out)))
        (case side8 => exact HC1_3.out)
        rintro e w72 ⟨rfl, hb⟩
        refine ⟨_, rfl, ?_⟩
        have n0_ := Aside0.mk (blk_below (g := gb367) (o := .cells #[.int .i64 a0_0, .string a0_1, .slice A0_2 l0_2.length c0_2, .slice A0_3 l0_3.length c0_3, .int .i64 a0_4] 26 (0, 0)) (q3_ BK367.out) hb)
        have n1_ := Aside0.mk (blk_below (g := gb368) (o := .cells #[.int .i64 a1_0, .string a1_1, .slice A1_2 l1_2.length c1_2, .slice A1_3 l1_3.length c1_3, .int .i64 a1_4] 26 (0, 0)) (q3_ BK368.out) hb)
        have n2_ := Aside0.mk (below_step (q5_ HB.out GE367.out GE368.out) hb)
        clear BK367
        clear BK368
        clear HB
        have BK367 := n0_
        have BK368 := n1_
        have HB := n2_
        clear n0_ n1_ n2_
        (try clear hb)
        (try clear hb2)
        (try clear hk)
        (try clear hi)
        refine hK.out _ _ ⟨(blk_cell BK367.out 0).trans rfl, (blk_cell BK367.out 1).trans rfl, (blk_cell BK367.out 2).trans rfl, (blk_cell BK367.out 3).trans rfl, (blk_cell BK367.out 4).trans rfl, (blk_cell BK368.out 0).trans rfl, (blk_cell BK368.out 1).trans rfl, (blk_cell BK368.out 2).trans rfl, (blk_cell BK368.out 3).trans rfl, (blk_cell BK368.out 4).trans rfl⟩ (fun hHeld => ?_)
        clear hK K
        refine nA_ 41 ?_
        refine pA_ 28 42 (ml_ 40 536870911) rfl rfl HT_.out ?_
        refine pA_ 29 43 (ml_ 40 1073741823) rfl rfl HT_.out ?_
        refine pA_ 30 44 (ml_ 40 2147483647) rfl rfl HT_.out ?_
        refine pU_ 31 45 (ml_ 40 4294967295) rfl rfl HT_.out ?_
        refine pU_ 32 46 (ml_ 40 8589934591) rfl rfl HT_.out ?_
        refine pU_ 33 47 (ml_ 40 17179869183) rfl rfl HT_.out ?_
        refine pU_ 34 48 (ml_ 40 34359738367) rfl rfl HT_.out ?_
        refine pA_ 35 49 (ml_ 40 68719476735) rfl rfl HT_.out ?_
        refine pA_ 36 50 (ml_ 40 137438953471) rfl rfl HT_.out ?_
        refine pU_ 37 51 (ml_ 40 274877906943) rfl rfl HT_.out ?_
        refine pA_ 38 52 (ml_ 40 549755813887) rfl rfl HT_.out ?_
        refine pA_ 39 6 (ml_ 40 1099511627775) rfl rfl HT_.out ?_
        refine done_ (done_of HT_.out (by kernel_rfl)) ?_
        try go_wp2
        go_ret
        exact ⟨by first | rfl | (simp [errW_none, errW_some] <;> rfl) | (simp [*, errW_none, errW_some] <;> rfl), (q5_ HB.out GE367.out GE368.out)⟩
      ·rw [if_neg c29] at H
       have c29b0 : (t376.toList == t377.toList) = false := beq_eq_false_iff_ne.mpr c29
       have c29b1 : (t376.toList != t377.toList) = true := bne_iff_ne.mpr c29
       obtain rfl := Option.some.inj H
       try go_wp2
       have n0_ := Aside0.mk (blk_drew BK367.out)
       have n1_ := Aside0.mk (blk_drew BK368.out)
       have n2_ := Aside0.mk (below_drew1 HB.out)
       clear BK367
       clear BK368
       clear HB
       have BK367 := n0_
       have BK368 := n1_
       have HB := n2_
       clear n0_ n1_ n2_
       refine start_ (n := 40) (S := fun w' => w'.cell? ⟨gb367, 0, none⟩ = some (.int .i64 a0_0) ∧ w'.cell? ⟨gb367, 1, none⟩ = some (.string a0_1) ∧ w'.cell? ⟨gb367, 2, none⟩ = some (.slice A0_2 l0_2.length c0_2) ∧ w'.cell? ⟨gb367, 3, none⟩ = some (.slice A0_3 l0_3.length c0_3) ∧ w'.cell? ⟨gb367, 4, none⟩ = some (.int .i64 a0_4)) (ds := []) (ml_ 40 0) (by kernel_rfl) rfl rfl ⟨(blk_cell BK367.out 0).trans rfl, (blk_cell BK367.out 1).trans rfl, (blk_cell BK367.out 2).trans rfl, (blk_cell BK367.out 3).trans rfl, (blk_cell BK367.out 4).trans rfl⟩ (fun hHeld => ?_); refine with_tabW caravanlaw5_ItemAll.tab3 caravanlaw5_ItemAll.bits3 (fun HT_ HW_ => ?_)
       generalize wc.drew = w73 at BK367 BK368 HB hHeld ⊢
       refine t5_ 0 14 (ml_ 40 1) rfl rfl HT_.out HW_.out hHeld ?_
       refine t5_ 2 16 (ml_ 40 5) rfl rfl HT_.out HW_.out hHeld ?_
       refine one_ (i := 1) (N := some 15) (ml_ 40 7) rfl rfl (one_of HT_.out (by kernel_rfl)) (by decide) (fun K hK => ?_)
       refine goes_ Try.func9 (by kernel_rfl) rfl #[.agg #[.int .i64 a0_0, .string a0_1, .slice A0_2 l0_2.length c0_2, .slice A0_3 l0_3.length c0_3, .int .i64 a0_4]] (by rfl) rfl rfl qM_ ?_
       with_reducible refine (item_May.calls a0_0 a0_1 _ _ l0_2 _ _ l0_3 a0_4 t372 _ ?side1 ?side2 ?side3 ?side4 A21.out).mono ?_
       (case side1 => exact qC_ ((Kd.C_below HR0_2.out HB.out)))
       (case side2 => exact HC0_2.out)
       (case side3 => exact qC_ ((Kd.C_below HR0_3.out HB.out)))
       (case side4 => exact HC0_3.out)
       rintro e w74 ⟨rfl, hb⟩
       refine ⟨_, rfl, ?_⟩
       have n0_ := Aside0.mk (blk_below (g := gb367) (o := .cells #[.int .i64 a0_0, .string a0_1, .slice A0_2 l0_2.length c0_2, .slice A0_3 l0_3.length c0_3, .int .i64 a0_4] 26 (0, 0)) (q3_ BK367.out) hb)
       have n1_ := Aside0.mk (blk_below (g := gb368) (o := .cells #[.int .i64 a1_0, .string a1_1, .slice A1_2 l1_2.length c1_2, .slice A1_3 l1_3.length c1_3, .int .i64 a1_4] 26 (0, 0)) (q3_ BK368.out) hb)
       have n2_ := Aside0.mk (below_step (q5_ HB.out GE367.out GE368.out) hb)
       clear BK367
       clear BK368
       clear HB
       have BK367 := n0_
       have BK368 := n1_
       have HB := n2_
       clear n0_ n1_ n2_
       (try clear hb)
       (try clear hb2)
       (try clear hk)
       (try clear hi)
       refine hK.out _ _ ⟨(blk_cell BK367.out 0).trans rfl, (blk_cell BK367.out 1).trans rfl, (blk_cell BK367.out 2).trans rfl, (blk_cell BK367.out 3).trans rfl, (blk_cell BK367.out 4).trans rfl⟩ (fun hHeld => ?_)
       clear hK K
       refine nA_ 15 ?_
       refine one_ (i := 3) (N := some 17) (ml_ 40 15) rfl rfl (one_of HT_.out (by kernel_rfl)) (by decide) (fun K hK => ?_)
       refine goes_ Try.func12 (by kernel_rfl) rfl #[.agg #[.int .i64 a0_0, .string a0_1, .slice A0_2 l0_2.length c0_2, .slice A0_3 l0_3.length c0_3, .int .i64 a0_4]] (by rfl) rfl rfl qM_ ?_
       with_reducible refine (caravanref5_MayItem.calls kj3 a0_0 a0_1 _ _ l0_2 _ _ l0_3 a0_4 t373 _ ?side1 ?side2 ?side3 ?side4 A22.out).mono ?_
       (case side1 => exact qC_ ((Kd.C_below HR0_2.out HB.out)))
       (case side2 => exact HC0_2.out)
       (case side3 => exact qC_ ((Kd.C_below HR0_3.out HB.out)))
       (case side4 => exact HC0_3.out)
       rintro e w75 ⟨rfl, hb⟩
       refine ⟨_, rfl, ?_⟩
       have n0_ := Aside0.mk (blk_below (g := gb367) (o := .cells #[.int .i64 a0_0, .string a0_1, .slice A0_2 l0_2.length c0_2, .slice A0_3 l0_3.length c0_3, .int .i64 a0_4] 26 (0, 0)) (q3_ BK367.out) hb)
       have n1_ := Aside0.mk (blk_below (g := gb368) (o := .cells #[.int .i64 a1_0, .string a1_1, .slice A1_2 l1_2.length c1_2, .slice A1_3 l1_3.length c1_3, .int .i64 a1_4] 26 (0, 0)) (q3_ BK368.out) hb)
       have n2_ := Aside0.mk (below_step (q5_ HB.out GE367.out GE368.out) hb)
       clear BK367
       clear BK368
       clear HB
       have BK367 := n0_
       have BK368 := n1_
       have HB := n2_
       clear n0_ n1_ n2_
       (try clear hb)
       (try clear hb2)
       (try clear hk)
       (try clear hi)
       refine hK.out _ _ ⟨(blk_cell BK367.out 0).trans rfl, (blk_cell BK367.out 1).trans rfl, (blk_cell BK367.out 2).trans rfl, (blk_cell BK367.out 3).trans rfl, (blk_cell BK367.out 4).trans rfl⟩ (fun hHeld => ?_)
       clear hK K
       refine nA_ 17 ?_
       refine pA_ 4 18 (ml_ 40 31) rfl rfl HT_.out ?_
       refine pA_ 5 19 (ml_ 40 63) rfl rfl HT_.out ?_
       refine pA_ 7 21 (ml_ 40 191) rfl rfl HT_.out ?_
       refine pA_ 10 24 (ml_ 40 1215) rfl rfl HT_.out ?_
       refine t5_ 6 20 (ml_ 40 1279) rfl rfl HT_.out HW_.out hHeld ?_
       refine t5_ 9 23 (ml_ 40 1791) rfl rfl HT_.out HW_.out hHeld ?_
       refine one_ (i := 8) (N := some 22) (ml_ 40 2047) rfl rfl (one_of HT_.out (by kernel_rfl)) (by decide) (fun K hK => ?_)
       refine goes_ Try.func13 (by kernel_rfl) rfl #[.agg #[.int .i64 a0_0, .string a0_1, .slice A0_2 l0_2.length c0_2, .slice A0_3 l0_3.length c0_3, .int .i64 a0_4], .int .i64 a2] (by rfl) rfl rfl qM_ ?_
       with_reducible refine (item_Alive.calls a0_0 a0_1 _ _ l0_2 _ _ l0_3 a0_4 a2 t374 _ ?side1 ?side2 ?side3 ?side4 A24.out).mono ?_
       (case side1 => exact qC_ ((Kd.C_below HR0_2.out HB.out)))
       (case side2 => exact HC0_2.out)
       (case side3 => exact qC_ ((Kd.C_below HR0_3.out HB.out)))
       (case side4 => exact HC0_3.out)
       rintro e w76 ⟨rfl, hb⟩
       refine ⟨_, rfl, ?_⟩
       have n0_ := Aside0.mk (blk_below (g := gb367) (o := .cells #[.int .i64 a0_0, .string a0_1, .slice A0_2 l0_2.length c0_2, .slice A0_3 l0_3.length c0_3, .int .i64 a0_4] 26 (0, 0)) (q3_ BK367.out) hb)
       have n1_ := Aside0.mk (blk_below (g := gb368) (o := .cells #[.int .i64 a1_0, .string a1_1, .slice A1_2 l1_2.length c1_2, .slice A1_3 l1_3.length c1_3, .int .i64 a1_4] 26 (0, 0)) (q3_ BK368.out) hb)
       have n2_ := Aside0.mk (below_step (q5_ HB.out GE367.out GE368.out) hb)
       clear BK367
       clear BK368
       clear HB
       have BK367 := n0_
       have BK368 := n1_
       have HB := n2_
       clear n0_ n1_ n2_
       (try clear hb)
       (try clear hb2)
       (try clear hk)
       (try clear hi)
       refine hK.out _ _ ⟨(blk_cell BK367.out 0).trans rfl, (blk_cell BK367.out 1).trans rfl, (blk_cell BK367.out 2).trans rfl, (blk_cell BK367.out 3).trans rfl, (blk_cell BK367.out 4).trans rfl⟩ (fun hHeld => ?_)
       clear hK K
       refine nA_ 22 ?_
       refine one_ (i := 11) (N := some 25) (ml_ 40 4095) rfl rfl (one_of HT_.out (by kernel_rfl)) (by decide) (fun K hK => ?_)
       refine goes_ Try.func14 (by kernel_rfl) rfl #[.agg #[.int .i64 a0_0, .string a0_1, .slice A0_2 l0_2.length c0_2, .slice A0_3 l0_3.length c0_3, .int .i64 a0_4], .int .i64 a2] (by rfl) rfl rfl qM_ ?_
       with_reducible refine (caravanref5_Alive.calls a0_0 a0_1 _ _ l0_2 _ _ l0_3 a0_4 a2 t375 _ ?side1 ?side2 ?side3 ?side4 A25.out).mono ?_
       (case side1 => exact qC_ ((Kd.C_below HR0_2.out HB.out)))
       (case side2 => exact HC0_2.out)
       (case side3 => exact qC_ ((Kd.C_below HR0_3.out HB.out)))
       (case side4 => exact HC0_3.out)
       rintro e w77 ⟨rfl, hb⟩
       refine ⟨_, rfl, ?_⟩
       have n0_ := Aside0.mk (blk_below (g := gb367) (o := .cells #[.int .i64 a0_0, .string a0_1, .slice A0_2 l0_2.length c0_2, .slice A0_3 l0_3.length c0_3, .int .i64 a0_4] 26 (0, 0)) (q3_ BK367.out) hb)
       have n1_ := Aside0.mk (blk_below (g := gb368) (o := .cells #[.int .i64 a1_0, .string a1_1, .slice A1_2 l1_2.length c1_2, .slice A1_3 l1_3.length c1_3, .int .i64 a1_4] 26 (0, 0)) (q3_ BK368.out) hb)
       have n2_ := Aside0.mk (below_step (q5_ HB.out GE367.out GE368.out) hb)
       clear BK367
       clear BK368
       clear HB
       have BK367 := n0_
       have BK368 := n1_
       have HB := n2_
       clear n0_ n1_ n2_
       (try clear hb)
       (try clear hb2)
       (try clear hk)
       (try clear hi)
       refine hK.out _ _ ⟨(blk_cell BK367.out 0).trans rfl, (blk_cell BK367.out 1).trans rfl, (blk_cell BK367.out 2).trans rfl, (blk_cell BK367.out 3).trans rfl, (blk_cell BK367.out 4).trans rfl⟩ (fun hHeld => ?_)
       clear hK K
       refine nA_ 25 ?_
       refine pA_ 12 26 (ml_ 40 8191) rfl rfl HT_.out ?_
       refine pA_ 13 27 (ml_ 40 16383) rfl rfl HT_.out ?_
       refine pA_ 14 28 (ml_ 40 32767) rfl rfl HT_.out ?_
       refine t5_ 15 29 (ml_ 40 65535) rfl rfl HT_.out HW_.out hHeld ?_
       refine t5_ 17 31 (ml_ 40 196607) rfl rfl HT_.out HW_.out hHeld ?_
       refine one_ (i := 16) (N := some 30) (ml_ 40 262143) rfl rfl (one_of HT_.out (by kernel_rfl)) (by decide) (fun K hK => ?_)
       refine goes_ Try.func15 (by kernel_rfl) rfl #[.agg #[.int .i64 a0_0, .string a0_1, .slice A0_2 l0_2.length c0_2, .slice A0_3 l0_3.length c0_3, .int .i64 a0_4]] (by rfl) rfl rfl qM_ ?_
       with_reducible refine (item_Type.calls a0_0 a0_1 _ _ l0_2 _ _ l0_3 a0_4 t376 _ ?side1 ?side2 ?side3 ?side4 A27.out).mono ?_
       (case side1 => exact qC_ ((Kd.C_below HR0_2.out HB.out)))
       (case side2 => exact HC0_2.out)
       (case side3 => exact qC_ ((Kd.C_below HR0_3.out HB.out)))
       (case side4 => exact HC0_3.out)
       rintro e w78 ⟨rfl, hb⟩
       refine ⟨_, rfl, ?_⟩
       have n0_ := Aside0.mk (blk_below (g := gb367) (o := .cells #[.int .i64 a0_0, .string a0_1, .slice A0_2 l0_2.length c0_2, .slice A0_3 l0_3.length c0_3, .int .i64 a0_4] 26 (0, 0)) (q3_ BK367.out) hb)
       have n1_ := Aside0.mk (blk_below (g := gb368) (o := .cells #[.int .i64 a1_0, .string a1_1, .slice A1_2 l1_2.length c1_2, .slice A1_3 l1_3.length c1_3, .int .i64 a1_4] 26 (0, 0)) (q3_ BK368.out) hb)
       have n2_ := Aside0.mk (below_step (q5_ HB.out GE367.out GE368.out) hb)
       clear BK367
       clear BK368
       clear HB
       have BK367 := n0_
       have BK368 := n1_
       have HB := n2_
       clear n0_ n1_ n2_
       (try clear hb)
       (try clear hb2)
       (try clear hk)
       (try clear hi)
       refine hK.out _ _ ⟨(blk_cell BK367.out 0).trans rfl, (blk_cell BK367.out 1).trans rfl, (blk_cell BK367.out 2).trans rfl, (blk_cell BK367.out 3).trans rfl, (blk_cell BK367.out 4).trans rfl⟩ (fun hHeld => ?_)
       clear hK K
       refine nA_ 30 ?_
       refine one_ (i := 18) (N := some 32) (ml_ 40 524287) rfl rfl (one_of HT_.out (by kernel_rfl)) (by decide) (fun K hK => ?_)
       refine goes_ Try.func16 (by kernel_rfl) rfl #[.agg #[.int .i64 a0_0, .string a0_1, .slice A0_2 l0_2.length c0_2, .slice A0_3 l0_3.length c0_3, .int .i64 a0_4]] (by rfl) rfl rfl qM_ ?_
       with_reducible refine (caravanref5_Type.calls a0_0 a0_1 _ _ l0_2 _ _ l0_3 a0_4 t377 _ ?side1 ?side2 ?side3 ?side4 A28.out).mono ?_
       (case side1 => exact qC_ ((Kd.C_below HR0_2.out HB.out)))
       (case side2 => exact HC0_2.out)
       (case side3 => exact qC_ ((Kd.C_below HR0_3.out HB.out)))
       (case side4 => exact HC0_3.out)
       rintro e w79 ⟨rfl, hb⟩
       refine ⟨_, rfl, ?_⟩
       have n0_ := Aside0.mk (blk_below (g := gb367) (o := .cells #[.int .i64 a0_0, .string a0_1, .slice A0_2 l0_2.length c0_2, .slice A0_3 l0_3.length c0_3, .int .i64 a0_4] 26 (0, 0)) (q3_ BK367.out) hb)
       have n1_ := Aside0.mk (blk_below (g := gb368) (o := .cells #[.int .i64 a1_0, .string a1_1, .slice A1_2 l1_2.length c1_2, .slice A1_3 l1_3.length c1_3, .int .i64 a1_4] 26 (0, 0)) (q3_ BK368.out) hb)
       have n2_ := Aside0.mk (below_step (q5_ HB.out GE367.out GE368.out) hb)
       clear BK367
       clear BK368
       clear HB
       have BK367 := n0_
       have BK368 := n1_
       have HB := n2_
       clear n0_ n1_ n2_
       (try clear hb)
       (try clear hb2)
       (try clear hk)
       (try clear hi)
       refine hK.out _ _ ⟨(blk_cell BK367.out 0).trans rfl, (blk_cell BK367.out 1).trans rfl, (blk_cell BK367.out 2).trans rfl, (blk_cell BK367.out 3).trans rfl, (blk_cell BK367.out 4).trans rfl⟩ (fun hHeld => ?_)
       clear hK K
       refine nA_ 32 ?_
       refine pA_ 19 33 (ml_ 40 1048575) rfl rfl HT_.out ?_
       refine pA_ 20 34 (ml_ 40 2097151) rfl rfl HT_.out ?_
       refine pA_ 21 35 (ml_ 40 4194303) rfl rfl HT_.out ?_
       refine pU_ 22 36 (ml_ 40 8388607) rfl rfl HT_.out ?_
       refine pU_ 23 37 (ml_ 40 16777215) rfl rfl HT_.out ?_
       refine pU_ 24 38 (ml_ 40 33554431) rfl rfl HT_.out ?_
       refine pU_ 25 39 (ml_ 40 67108863) rfl rfl HT_.out ?_
       refine pU_ 26 40 (ml_ 40 134217727) rfl rfl HT_.out ?_
       refine pU_ 27 41 (ml_ 40 268435455) rfl rfl HT_.out ?_
       refine pU_ 28 42 (ml_ 40 536870911) rfl rfl HT_.out ?_
       refine pA_ 29 43 (ml_ 40 1073741823) rfl rfl HT_.out ?_
       refine pA_ 30 44 (ml_ 40 2147483647) rfl rfl HT_.out ?_
       refine pU_ 31 45 (ml_ 40 4294967295) rfl rfl HT_.out ?_
       refine pU_ 32 46 (ml_ 40 8589934591) rfl rfl HT_.out ?_
       refine pU_ 33 47 (ml_ 40 17179869183) rfl rfl HT_.out ?_
       refine pU_ 34 48 (ml_ 40 34359738367) rfl rfl HT_.out ?_
       refine pA_ 35 49 (ml_ 40 68719476735) rfl rfl HT_.out ?_
       refine pA_ 36 50 (ml_ 40 137438953471) rfl rfl HT_.out ?_
       refine pU_ 37 51 (ml_ 40 274877906943) rfl rfl HT_.out ?_
       refine pA_ 38 52 (ml_ 40 549755813887) rfl rfl HT_.out ?_
       refine pA_ 39 6 (ml_ 40 1099511627775) rfl rfl HT_.out ?_
       refine done_ (done_of HT_.out (by kernel_rfl)) ?_
       try go_wp2
       go_ret
       exact ⟨by first | rfl | (simp [errW_none, errW_some] <;> rfl) | (simp [*, errW_none, errW_some] <;> rfl), (q5_ HB.out GE367.out GE368.out)⟩
     ·rw [if_neg c26] at H
      have c26b0 : (t374 == t375) = false := by simpa using c26
      (try (have c26b1 : decide (t374 = t375) = false := by simpa using c26))
      (try (have c26b2 : (t374 == t375) = false := by simpa using c26))
      (try (have c26b3 : ¬ (t374 = t375) := by simpa using c26))
      clear c26
      obtain rfl := Option.some.inj H
      try go_wp2
      have n0_ := Aside0.mk (blk_drew BK367.out)
      have n1_ := Aside0.mk (blk_drew BK368.out)
      have n2_ := Aside0.mk (below_drew1 HB.out)
      clear BK367
      clear BK368
      clear HB
      have BK367 := n0_
      have BK368 := n1_
      have HB := n2_
      clear n0_ n1_ n2_
      refine start_ (n := 40) (S := fun w' => w'.cell? ⟨gb367, 0, none⟩ = some (.int .i64 a0_0) ∧ w'.cell? ⟨gb367, 1, none⟩ = some (.string a0_1) ∧ w'.cell? ⟨gb367, 2, none⟩ = some (.slice A0_2 l0_2.length c0_2) ∧ w'.cell? ⟨gb367, 3, none⟩ = some (.slice A0_3 l0_3.length c0_3) ∧ w'.cell? ⟨gb367, 4, none⟩ = some (.int .i64 a0_4)) (ds := []) (ml_ 40 0) (by kernel_rfl) rfl rfl ⟨(blk_cell BK367.out 0).trans rfl, (blk_cell BK367.out 1).trans rfl, (blk_cell BK367.out 2).trans rfl, (blk_cell BK367.out 3).trans rfl, (blk_cell BK367.out 4).trans rfl⟩ (fun hHeld => ?_); refine with_tabW caravanlaw5_ItemAll.tab3 caravanlaw5_ItemAll.bits3 (fun HT_ HW_ => ?_)
      generalize wc.drew = w80 at BK367 BK368 HB hHeld ⊢
      refine t5_ 0 14 (ml_ 40 1) rfl rfl HT_.out HW_.out hHeld ?_
      refine t5_ 2 16 (ml_ 40 5) rfl rfl HT_.out HW_.out hHeld ?_
      refine one_ (i := 1) (N := some 15) (ml_ 40 7) rfl rfl (one_of HT_.out (by kernel_rfl)) (by decide) (fun K hK => ?_)
      refine goes_ Try.func9 (by kernel_rfl) rfl #[.agg #[.int .i64 a0_0, .string a0_1, .slice A0_2 l0_2.length c0_2, .slice A0_3 l0_3.length c0_3, .int .i64 a0_4]] (by rfl) rfl rfl qM_ ?_
      with_reducible refine (item_May.calls a0_0 a0_1 _ _ l0_2 _ _ l0_3 a0_4 t372 _ ?side1 ?side2 ?side3 ?side4 A21.out).mono ?_
      (case side1 => exact qC_ ((Kd.C_below HR0_2.out HB.out)))
      (case side2 => exact HC0_2.out)
      (case side3 => exact qC_ ((Kd.C_below HR0_3.out HB.out)))
      (case side4 => exact HC0_3.out)
      rintro e w81 ⟨rfl, hb⟩
      refine ⟨_, rfl, ?_⟩
      have n0_ := Aside0.mk (blk_below (g := gb367) (o := .cells #[.int .i64 a0_0, .string a0_1, .slice A0_2 l0_2.length c0_2, .slice A0_3 l0_3.length c0_3, .int .i64 a0_4] 26 (0, 0)) (q3_ BK367.out) hb)
      have n1_ := Aside0.mk (blk_below (g := gb368) (o := .cells #[.int .i64 a1_0, .string a1_1, .slice A1_2 l1_2.length c1_2, .slice A1_3 l1_3.length c1_3, .int .i64 a1_4] 26 (0, 0)) (q3_ BK368.out) hb)
      have n2_ := Aside0.mk (below_step (q5_ HB.out GE367.out GE368.out) hb)
      clear BK367
      clear BK368
      clear HB
      have BK367 := n0_
      have BK368 := n1_
      have HB := n2_
      clear n0_ n1_ n2_
      (try clear hb)
      (try clear hb2)
      (try clear hk)
      (try clear hi)
      refine hK.out _ _ ⟨(blk_cell BK367.out 0).trans rfl, (blk_cell BK367.out 1).trans rfl, (blk_cell BK367.out 2).trans rfl, (blk_cell BK367.out 3).trans rfl, (blk_cell BK367.out 4).trans rfl⟩ (fun hHeld => ?_)
      clear hK K
      refine nA_ 15 ?_
      refine one_ (i := 3) (N := some 17) (ml_ 40 15) rfl rfl (one_of HT_.out (by kernel_rfl)) (by decide) (fun K hK => ?_)
      refine goes_ Try.func12 (by kernel_rfl) rfl #[.agg #[.int .i64 a0_0, .string a0_1, .slice A0_2 l0_2.length c0_2, .slice A0_3 l0_3.length c0_3, .int .i64 a0_4]] (by rfl) rfl rfl qM_ ?_
      with_reducible refine (caravanref5_MayItem.calls kj3 a0_0 a0_1 _ _ l0_2 _ _ l0_3 a0_4 t373 _ ?side1 ?side2 ?side3 ?side4 A22.out).mono ?_
      (case side1 => exact qC_ ((Kd.C_below HR0_2.out HB.out)))
      (case side2 => exact HC0_2.out)
      (case side3 => exact qC_ ((Kd.C_below HR0_3.out HB.out)))
      (case side4 => exact HC0_3.out)
      rintro e w82 ⟨rfl, hb⟩
      refine ⟨_, rfl, ?_⟩
      have n0_ := Aside0.mk (blk_below (g := gb367) (o := .cells #[.int .i64 a0_0, .string a0_1, .slice A0_2 l0_2.length c0_2, .slice A0_3 l0_3.length c0_3, .int .i64 a0_4] 26 (0, 0)) (q3_ BK367.out) hb)
      have n1_ := Aside0.mk (blk_below (g := gb368) (o := .cells #[.int .i64 a1_0, .string a1_1, .slice A1_2 l1_2.length c1_2, .slice A1_3 l1_3.length c1_3, .int .i64 a1_4] 26 (0, 0)) (q3_ BK368.out) hb)
      have n2_ := Aside0.mk (below_step (q5_ HB.out GE367.out GE368.out) hb)
      clear BK367
      clear BK368
      clear HB
      have BK367 := n0_
      have BK368 := n1_
      have HB := n2_
      clear n0_ n1_ n2_
      (try clear hb)
      (try clear hb2)
      (try clear hk)
      (try clear hi)
      refine hK.out _ _ ⟨(blk_cell BK367.out 0).trans rfl, (blk_cell BK367.out 1).trans rfl, (blk_cell BK367.out 2).trans rfl, (blk_cell BK367.out 3).trans rfl, (blk_cell BK367.out 4).trans rfl⟩ (fun hHeld => ?_)
      clear hK K
      refine nA_ 17 ?_
      refine pA_ 4 18 (ml_ 40 31) rfl rfl HT_.out ?_
      refine pA_ 5 19 (ml_ 40 63) rfl rfl HT_.out ?_
      refine pA_ 7 21 (ml_ 40 191) rfl rfl HT_.out ?_
      refine pA_ 10 24 (ml_ 40 1215) rfl rfl HT_.out ?_
      refine t5_ 6 20 (ml_ 40 1279) rfl rfl HT_.out HW_.out hHeld ?_
      refine t5_ 9 23 (ml_ 40 1791) rfl rfl HT_.out HW_.out hHeld ?_
      refine one_ (i := 8) (N := some 22) (ml_ 40 2047) rfl rfl (one_of HT_.out (by kernel_rfl)) (by decide) (fun K hK => ?_)
      refine goes_ Try.func13 (by kernel_rfl) rfl #[.agg #[.int .i64 a0_0, .string a0_1, .slice A0_2 l0_2.length c0_2, .slice A0_3 l0_3.length c0_3, .int .i64 a0_4], .int .i64 a2] (by rfl) rfl rfl qM_ ?_
      with_reducible refine (item_Alive.calls a0_0 a0_1 _ _ l0_2 _ _ l0_3 a0_4 a2 t374 _ ?side1 ?side2 ?side3 ?side4 A24.out).mono ?_
      (case side1 => exact qC_ ((Kd.C_below HR0_2.out HB.out)))
      (case side2 => exact HC0_2.out)
      (case side3 => exact qC_ ((Kd.C_below HR0_3.out HB.out)))
      (case side4 => exact HC0_3.out)
      rintro e w83 ⟨rfl, hb⟩
      refine ⟨_, rfl, ?_⟩
      have n0_ := Aside0.mk (blk_below (g := gb367) (o := .cells #[.int .i64 a0_0, .string a0_1, .slice A0_2 l0_2.length c0_2, .slice A0_3 l0_3.length c0_3, .int .i64 a0_4] 26 (0, 0)) (q3_ BK367.out) hb)
      have n1_ := Aside0.mk (blk_below (g := gb368) (o := .cells #[.int .i64 a1_0, .string a1_1, .slice A1_2 l1_2.length c1_2, .slice A1_3 l1_3.length c1_3, .int .i64 a1_4] 26 (0, 0)) (q3_ BK368.out) hb)
      have n2_ := Aside0.mk (below_step (q5_ HB.out GE367.out GE368.out) hb)
      clear BK367
      clear BK368
      clear HB
      have BK367 := n0_
      have BK368 := n1_
      have HB := n2_
      clear n0_ n1_ n2_
      (try clear hb)
      (try clear hb2)
      (try clear hk)
      (try clear hi)
      refine hK.out _ _ ⟨(blk_cell BK367.out 0).trans rfl, (blk_cell BK367.out 1).trans rfl, (blk_cell BK367.out 2).trans rfl, (blk_cell BK367.out 3).trans rfl, (blk_cell BK367.out 4).trans rfl⟩ (fun hHeld => ?_)
      clear hK K
      refine nA_ 22 ?_
      refine one_ (i := 11) (N := some 25) (ml_ 40 4095) rfl rfl (one_of HT_.out (by kernel_rfl)) (by decide) (fun K hK => ?_)
      refine goes_ Try.func14 (by kernel_rfl) rfl #[.agg #[.int .i64 a0_0, .string a0_1, .slice A0_2 l0_2.length c0_2, .slice A0_3 l0_3.length c0_3, .int .i64 a0_4], .int .i64 a2] (by rfl) rfl rfl qM_ ?_
      with_reducible refine (caravanref5_Alive.calls a0_0 a0_1 _ _ l0_2 _ _ l0_3 a0_4 a2 t375 _ ?side1 ?side2 ?side3 ?side4 A25.out).mono ?_
      (case side1 => exact qC_ ((Kd.C_below HR0_2.out HB.out)))
      (case side2 => exact HC0_2.out)
      (case side3 => exact qC_ ((Kd.C_below HR0_3.out HB.out)))
      (case side4 => exact HC0_3.out)
      rintro e w84 ⟨rfl, hb⟩
      refine ⟨_, rfl, ?_⟩
      have n0_ := Aside0.mk (blk_below (g := gb367) (o := .cells #[.int .i64 a0_0, .string a0_1, .slice A0_2 l0_2.length c0_2, .slice A0_3 l0_3.length c0_3, .int .i64 a0_4] 26 (0, 0)) (q3_ BK367.out) hb)
      have n1_ := Aside0.mk (blk_below (g := gb368) (o := .cells #[.int .i64 a1_0, .string a1_1, .slice A1_2 l1_2.length c1_2, .slice A1_3 l1_3.length c1_3, .int .i64 a1_4] 26 (0, 0)) (q3_ BK368.out) hb)
      have n2_ := Aside0.mk (below_step (q5_ HB.out GE367.out GE368.out) hb)
      clear BK367
      clear BK368
      clear HB
      have BK367 := n0_
      have BK368 := n1_
      have HB := n2_
      clear n0_ n1_ n2_
      (try clear hb)
      (try clear hb2)
      (try clear hk)
      (try clear hi)
      refine hK.out _ _ ⟨(blk_cell BK367.out 0).trans rfl, (blk_cell BK367.out 1).trans rfl, (blk_cell BK367.out 2).trans rfl, (blk_cell BK367.out 3).trans rfl, (blk_cell BK367.out 4).trans rfl⟩ (fun hHeld => ?_)
      clear hK K
      refine nA_ 25 ?_
      refine pA_ 12 26 (ml_ 40 8191) rfl rfl HT_.out ?_
      refine pA_ 13 27 (ml_ 40 16383) rfl rfl HT_.out ?_
      refine pA_ 14 28 (ml_ 40 32767) rfl rfl HT_.out ?_
      refine pU_ 15 29 (ml_ 40 65535) rfl rfl HT_.out ?_
      refine pU_ 16 30 (ml_ 40 131071) rfl rfl HT_.out ?_
      refine pU_ 17 31 (ml_ 40 262143) rfl rfl HT_.out ?_
      refine pU_ 18 32 (ml_ 40 524287) rfl rfl HT_.out ?_
      refine pU_ 19 33 (ml_ 40 1048575) rfl rfl HT_.out ?_
      refine pA_ 20 34 (ml_ 40 2097151) rfl rfl HT_.out ?_
      refine pA_ 21 35 (ml_ 40 4194303) rfl rfl HT_.out ?_
      refine pU_ 22 36 (ml_ 40 8388607) rfl rfl HT_.out ?_
      refine pU_ 23 37 (ml_ 40 16777215) rfl rfl HT_.out ?_
      refine pU_ 24 38 (ml_ 40 33554431) rfl rfl HT_.out ?_
      refine pU_ 25 39 (ml_ 40 67108863) rfl rfl HT_.out ?_
      refine pU_ 26 40 (ml_ 40 134217727) rfl rfl HT_.out ?_
      refine pU_ 27 41 (ml_ 40 268435455) rfl rfl HT_.out ?_
      refine pU_ 28 42 (ml_ 40 536870911) rfl rfl HT_.out ?_
      refine pA_ 29 43 (ml_ 40 1073741823) rfl rfl HT_.out ?_
      refine pA_ 30 44 (ml_ 40 2147483647) rfl rfl HT_.out ?_
      refine pU_ 31 45 (ml_ 40 4294967295) rfl rfl HT_.out ?_
      refine pU_ 32 46 (ml_ 40 8589934591) rfl rfl HT_.out ?_
      refine pU_ 33 47 (ml_ 40 17179869183) rfl rfl HT_.out ?_
      refine pU_ 34 48 (ml_ 40 34359738367) rfl rfl HT_.out ?_
      refine pA_ 35 49 (ml_ 40 68719476735) rfl rfl HT_.out ?_
      refine pA_ 36 50 (ml_ 40 137438953471) rfl rfl HT_.out ?_
      refine pU_ 37 51 (ml_ 40 274877906943) rfl rfl HT_.out ?_
      refine pA_ 38 52 (ml_ 40 549755813887) rfl rfl HT_.out ?_
      refine pA_ 39 6 (ml_ 40 1099511627775) rfl rfl HT_.out ?_
      refine done_ (done_of HT_.out (by kernel_rfl)) ?_
      try go_wp2
      go_ret
      exact ⟨by first | rfl | (simp [errW_none, errW_some] <;> rfl) | (simp [*, errW_none, errW_some] <;> rfl), (q5_ HB.out GE367.out GE368.out)⟩
    ·rw [if_neg c23] at H
     have c23b0 : (t372 == t373) = false := by simpa using c23
     (try (have c23b1 : decide (t372 = t373) = false := by simpa using c23))
     (try (have c23b2 : (t372 == t373) = false := by simpa using c23))
     (try (have c23b3 : ¬ (t372 = t373) := by simpa using c23))
     clear c23
     obtain rfl := Option.some.inj H
     try go_wp2
     have n0_ := Aside0.mk (blk_drew BK367.out)
     have n1_ := Aside0.mk (blk_drew BK368.out)
     have n2_ := Aside0.mk (below_drew1 HB.out)
     clear BK367
     clear BK368
     clear HB
     have BK367 := n0_
     have BK368 := n1_
     have HB := n2_
     clear n0_ n1_ n2_
     refine start_ (n := 40) (S := fun w' => w'.cell? ⟨gb367, 0, none⟩ = some (.int .i64 a0_0) ∧ w'.cell? ⟨gb367, 1, none⟩ = some (.string a0_1) ∧ w'.cell? ⟨gb367, 2, none⟩ = some (.slice A0_2 l0_2.length c0_2) ∧ w'.cell? ⟨gb367, 3, none⟩ = some (.slice A0_3 l0_3.length c0_3) ∧ w'.cell? ⟨gb367, 4, none⟩ = some (.int .i64 a0_4)) (ds := []) (ml_ 40 0) (by kernel_rfl) rfl rfl ⟨(blk_cell BK367.out 0).trans rfl, (blk_cell BK367.out 1).trans rfl, (blk_cell BK367.out 2).trans rfl, (blk_cell BK367.out 3).trans rfl, (blk_cell BK367.out 4).trans rfl⟩ (fun hHeld => ?_); refine with_tabW caravanlaw5_ItemAll.tab3 caravanlaw5_ItemAll.bits3 (fun HT_ HW_ => ?_)
     generalize wc.drew = w85 at BK367 BK368 HB hHeld ⊢
     refine t5_ 0 14 (ml_ 40 1) rfl rfl HT_.out HW_.out hHeld ?_
     refine t5_ 2 16 (ml_ 40 5) rfl rfl HT_.out HW_.out hHeld ?_
     refine one_ (i := 1) (N := some 15) (ml_ 40 7) rfl rfl (one_of HT_.out (by kernel_rfl)) (by decide) (fun K hK => ?_)
     refine goes_ Try.func9 (by kernel_rfl) rfl #[.agg #[.int .i64 a0_0, .string a0_1, .slice A0_2 l0_2.length c0_2, .slice A0_3 l0_3.length c0_3, .int .i64 a0_4]] (by rfl) rfl rfl qM_ ?_
     with_reducible refine (item_May.calls a0_0 a0_1 _ _ l0_2 _ _ l0_3 a0_4 t372 _ ?side1 ?side2 ?side3 ?side4 A21.out).mono ?_
     (case side1 => exact qC_ ((Kd.C_below HR0_2.out HB.out)))
     (case side2 => exact HC0_2.out)
     (case side3 => exact qC_ ((Kd.C_below HR0_3.out HB.out)))
     (case side4 => exact HC0_3.out)
     rintro e w86 ⟨rfl, hb⟩
     refine ⟨_, rfl, ?_⟩
     have n0_ := Aside0.mk (blk_below (g := gb367) (o := .cells #[.int .i64 a0_0, .string a0_1, .slice A0_2 l0_2.length c0_2, .slice A0_3 l0_3.length c0_3, .int .i64 a0_4] 26 (0, 0)) (q3_ BK367.out) hb)
     have n1_ := Aside0.mk (blk_below (g := gb368) (o := .cells #[.int .i64 a1_0, .string a1_1, .slice A1_2 l1_2.length c1_2, .slice A1_3 l1_3.length c1_3, .int .i64 a1_4] 26 (0, 0)) (q3_ BK368.out) hb)
     have n2_ := Aside0.mk (below_step (q5_ HB.out GE367.out GE368.out) hb)
     clear BK367
     clear BK368
     clear HB
     have BK367 := n0_
     have BK368 := n1_
     have HB := n2_
     clear n0_ n1_ n2_
     (try clear hb)
     (try clear hb2)
     (try clear hk)
     (try clear hi)
     refine hK.out _ _ ⟨(blk_cell BK367.out 0).trans rfl, (blk_cell BK367.out 1).trans rfl, (blk_cell BK367.out 2).trans rfl, (blk_cell BK367.out 3).trans rfl, (blk_cell BK367.out 4).trans rfl⟩ (fun hHeld => ?_)
     clear hK K
     refine nA_ 15 ?_
     refine one_ (i := 3) (N := some 17) (ml_ 40 15) rfl rfl (one_of HT_.out (by kernel_rfl)) (by decide) (fun K hK => ?_)
     refine goes_ Try.func12 (by kernel_rfl) rfl #[.agg #[.int .i64 a0_0, .string a0_1, .slice A0_2 l0_2.length c0_2, .slice A0_3 l0_3.length c0_3, .int .i64 a0_4]] (by rfl) rfl rfl qM_ ?_
     with_reducible refine (caravanref5_MayItem.calls kj3 a0_0 a0_1 _ _ l0_2 _ _ l0_3 a0_4 t373 _ ?side1 ?side2 ?side3 ?side4 A22.out).mono ?_
     (case side1 => exact qC_ ((Kd.C_below HR0_2.out HB.out)))
     (case side2 => exact HC0_2.out)
     (case side3 => exact qC_ ((Kd.C_below HR0_3.out HB.out)))
     (case side4 => exact HC0_3.out)
     rintro e w87 ⟨rfl, hb⟩
     refine ⟨_, rfl, ?_⟩
     have n0_ := Aside0.mk (blk_below (g := gb367) (o := .cells #[.int .i64 a0_0, .string a0_1, .slice A0_2 l0_2.length c0_2, .slice A0_3 l0_3.length c0_3, .int .i64 a0_4] 26 (0, 0)) (q3_ BK367.out) hb)
     have n1_ := Aside0.mk (blk_below (g := gb368) (o := .cells #[.int .i64 a1_0, .string a1_1, .slice A1_2 l1_2.length c1_2, .slice A1_3 l1_3.length c1_3, .int .i64 a1_4] 26 (0, 0)) (q3_ BK368.out) hb)
     have n2_ := Aside0.mk (below_step (q5_ HB.out GE367.out GE368.out) hb)
     clear BK367
     clear BK368
     clear HB
     have BK367 := n0_
     have BK368 := n1_
     have HB := n2_
     clear n0_ n1_ n2_
     (try clear hb)
     (try clear hb2)
     (try clear hk)
     (try clear hi)
     refine hK.out _ _ ⟨(blk_cell BK367.out 0).trans rfl, (blk_cell BK367.out 1).trans rfl, (blk_cell BK367.out 2).trans rfl, (blk_cell BK367.out 3).trans rfl, (blk_cell BK367.out 4).trans rfl⟩ (fun hHeld => ?_)
     clear hK K
     refine nA_ 17 ?_
     refine pA_ 4 18 (ml_ 40 31) rfl rfl HT_.out ?_
     refine pA_ 5 19 (ml_ 40 63) rfl rfl HT_.out ?_
     refine pU_ 6 20 (ml_ 40 127) rfl rfl HT_.out ?_
     refine pU_ 7 21 (ml_ 40 255) rfl rfl HT_.out ?_
     refine pU_ 8 22 (ml_ 40 511) rfl rfl HT_.out ?_
     refine pU_ 9 23 (ml_ 40 1023) rfl rfl HT_.out ?_
     refine pU_ 10 24 (ml_ 40 2047) rfl rfl HT_.out ?_
     refine pU_ 11 25 (ml_ 40 4095) rfl rfl HT_.out ?_
     refine pU_ 12 26 (ml_ 40 8191) rfl rfl HT_.out ?_
     refine pA_ 13 27 (ml_ 40 16383) rfl rfl HT_.out ?_
     refine pA_ 14 28 (ml_ 40 32767) rfl rfl HT_.out ?_
     refine pU_ 15 29 (ml_ 40 65535) rfl rfl HT_.out ?_
     refine pU_ 16 30 (ml_ 40 131071) rfl rfl HT_.out ?_
     refine pU_ 17 31 (ml_ 40 262143) rfl rfl HT_.out ?_
     refine pU_ 18 32 (ml_ 40 524287) rfl rfl HT_.out ?_
     refine pU_ 19 33 (ml_ 40 1048575) rfl rfl HT_.out ?_
     refine pA_ 20 34 (ml_ 40 2097151) rfl rfl HT_.out ?_
     refine pA_ 21 35 (ml_ 40 4194303) rfl rfl HT_.out ?_
     refine pU_ 22 36 (ml_ 40 8388607) rfl rfl HT_.out ?_
     refine pU_ 23 37 (ml_ 40 16777215) rfl rfl HT_.out ?_
     refine pU_ 24 38 (ml_ 40 33554431) rfl rfl HT_.out ?_
     refine pU_ 25 39 (ml_ 40 67108863) rfl rfl HT_.out ?_
     refine pU_ 26 40 (ml_ 40 134217727) rfl rfl HT_.out ?_
     refine pU_ 27 41 (ml_ 40 268435455) rfl rfl HT_.out ?_
     refine pU_ 28 42 (ml_ 40 536870911) rfl rfl HT_.out ?_
     refine pA_ 29 43 (ml_ 40 1073741823) rfl rfl HT_.out ?_
     refine pA_ 30 44 (ml_ 40 2147483647) rfl rfl HT_.out ?_
     refine pU_ 31 45 (ml_ 40 4294967295) rfl rfl HT_.out ?_
     refine pU_ 32 46 (ml_ 40 8589934591) rfl rfl HT_.out ?_
     refine pU_ 33 47 (ml_ 40 17179869183) rfl rfl HT_.out ?_
     refine pU_ 34 48 (ml_ 40 34359738367) rfl rfl HT_.out ?_
     refine pA_ 35 49 (ml_ 40 68719476735) rfl rfl HT_.out ?_
     refine pA_ 36 50 (ml_ 40 137438953471) rfl rfl HT_.out ?_
     refine pU_ 37 51 (ml_ 40 274877906943) rfl rfl HT_.out ?_
     refine pA_ 38 52 (ml_ 40 549755813887) rfl rfl HT_.out ?_
     refine pA_ 39 6 (ml_ 40 1099511627775) rfl rfl HT_.out ?_
     refine done_ (done_of HT_.out (by kernel_rfl)) ?_
     try go_wp2
     go_ret
     exact ⟨by first | rfl | (simp [errW_none, errW_some] <;> rfl) | (simp [*, errW_none, errW_some] <;> rfl), (q5_ HB.out GE367.out GE368.out)⟩

end Go.Proofs.Ytbmimcpllpgcaaa.G
