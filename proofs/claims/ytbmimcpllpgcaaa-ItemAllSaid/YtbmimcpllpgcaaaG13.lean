/- What functions of the translation come to, and their calls' proofs; by a program of mine over the kit's print, with contracts given by hand beside. Conditions: where a plain function tells none, nothing is said. -/
import Derived.Test.YtbmimcpllpgcaaaG0
import Derived.Test.YtbmimcpllpgcaaaG12
namespace Go.Proofs.Ytbmimcpllpgcaaa.G
open Go.RowKit Go.Proofs.YtbmimcpllpgcaaaW.PrintWords Go.Proofs.YtbmimcpllpgcaaaW.PrintLast Go.Proofs.YtbmimcpllpgcaaaW.PrintMore
attribute [local go_sem] max2_int min2_int max_two min_two max_three min_three max_four min_four   -- for this text's walks alone
set_option linter.unusedVariables false
set_option linter.unusedSimpArgs false

/-! ### caravanref5_MayItem: function 12 -/
mutual
def caravanref5_MayItem.j0 : Nat → Bool → Int → ByteArray → List (S29) → List ByteArray → Int → Option (Bool)
 | 0, _, _, _, _, _, _ => none
 | k + 1, x35, x359000, x359001, x359002, x359003, x359004 => if x35 = true then (some false) else (caravanref5_MayItem.l0 k 0 x359000 x359001 x359002 x359003 x359004)
def caravanref5_MayItem.l0 : Nat → Int → Int → ByteArray → List (S29) → List ByteArray → Int → Option (Bool)
 | 0, _, _, _, _, _, _ => none
 | k + 1, x3, x359000, x359001, x359002, x359003, x359004 => if x3 < (x359002.length : Int) then (if 0 ≤ x3 then (if (((rd_T29 x359002 x3).f0).size : Int) > 300 then (some false) else (if (((rd_T29 x359002 x3).f1).size : Int) > 300 then (some false) else (if x3 > 0 then (if 0 ≤ (wrap64 (x3 - 1)) then (if (wrap64 (x3 - 1)) < (x359002.length : Int) then (if ((Op.bytesLess (((rd_T29 x359002 (wrap64 (x3 - 1))).f0).toList) (((rd_T29 x359002 x3).f0).toList)) = true) then (caravanref5_MayItem.l0 k (wrap64 (x3 + 1)) x359000 x359001 x359002 x359003 x359004) else (some false)) else (none)) else (none)) else (caravanref5_MayItem.l0 k (wrap64 (x3 + 1)) x359000 x359001 x359002 x359003 x359004)))) else (none)) else (caravanref5_MayItem.l1 k 0 x359000 x359001 x359002 x359003 x359004)
def caravanref5_MayItem.l1 : Nat → Int → Int → ByteArray → List (S29) → List ByteArray → Int → Option (Bool)
 | 0, _, _, _, _, _, _ => none
 | k + 1, x4, x359000, x359001, x359002, x359003, x359004 => if x4 < (x359003.length : Int) then (if 0 ≤ x4 then (if ((rdOf ByteArray.empty x359003 x4).size : Int) > 300 then (some false) else (if x359000 = 4 then (if x4 > 0 then (if 0 ≤ (wrap64 (x4 - 1)) then (if (wrap64 (x4 - 1)) < (x359003.length : Int) then (if ((Op.bytesLess ((rdOf ByteArray.empty x359003 (wrap64 (x4 - 1))).toList) ((rdOf ByteArray.empty x359003 x4).toList)) = true) then (caravanref5_MayItem.l1 k (wrap64 (x4 + 1)) x359000 x359001 x359002 x359003 x359004) else (some false)) else (none)) else (none)) else (caravanref5_MayItem.l1 k (wrap64 (x4 + 1)) x359000 x359001 x359002 x359003 x359004)) else (caravanref5_MayItem.l1 k (wrap64 (x4 + 1)) x359000 x359001 x359002 x359003 x359004))) else (none)) else (some true)
end
def caravanref5_MayItem.f (k : Nat) (a0_0 : Int) (a0_1 : ByteArray) (l0_2 : List (S29)) (l0_3 : List ByteArray) (a0_4 : Int) : Option (Bool) := (caravanref5_bare.f a0_0 a0_1 l0_2 l0_3 a0_4).bind fun t359 => (if t359 = true then (if (a0_1.size : Int) > 300 then (caravanref5_MayItem.j0 k true a0_0 a0_1 l0_2 l0_3 a0_4) else (if (l0_2.length : Int) > 40 then (caravanref5_MayItem.j0 k true a0_0 a0_1 l0_2 l0_3 a0_4) else (if (l0_3.length : Int) > 40 then (caravanref5_MayItem.j0 k true a0_0 a0_1 l0_2 l0_3 a0_4) else (if a0_4 < 0 then (caravanref5_MayItem.j0 k true a0_0 a0_1 l0_2 l0_3 a0_4) else (caravanref5_MayItem.j0 k (decide (a0_4 > 9007199254740992)) a0_0 a0_1 l0_2 l0_3 a0_4))))) else (caravanref5_MayItem.j0 k true a0_0 a0_1 l0_2 l0_3 a0_4))
theorem caravanref5_MayItem.mono_l : ∀ k, (∀ y0 y1 y2 y3 y4 y5, LeO (caravanref5_MayItem.j0 k y0 y1 y2 y3 y4 y5) (caravanref5_MayItem.j0 (k + 1) y0 y1 y2 y3 y4 y5)) ∧ (∀ y0 y1 y2 y3 y4 y5, LeO (caravanref5_MayItem.l0 k y0 y1 y2 y3 y4 y5) (caravanref5_MayItem.l0 (k + 1) y0 y1 y2 y3 y4 y5)) ∧ (∀ y0 y1 y2 y3 y4 y5, LeO (caravanref5_MayItem.l1 k y0 y1 y2 y3 y4 y5) (caravanref5_MayItem.l1 (k + 1) y0 y1 y2 y3 y4 y5))
 | 0 => ⟨fun _ _ _ _ _ _ r h => by simp [caravanref5_MayItem.j0] at h, fun _ _ _ _ _ _ r h => by simp [caravanref5_MayItem.l0] at h, fun _ _ _ _ _ _ r h => by simp [caravanref5_MayItem.l1] at h⟩
 | k + 1 => by
  obtain ⟨ih0, ih1, ih2⟩ := caravanref5_MayItem.mono_l k
  refine ⟨?_, ?_, ?_⟩
  ·intro y0 y1 y2 y3 y4 y5
   unfold caravanref5_MayItem.j0
   repeat' first
   | (with_reducible exact ih0 _ _ _ _ _ _)
   | (with_reducible exact ih1 _ _ _ _ _ _)
   | (with_reducible exact ih2 _ _ _ _ _ _)
   | (with_reducible exact LeO.refl _)
   | (with_reducible exact LeO.none _)
   | (with_reducible refine LeO.ite ?_ ?_)
   | (with_reducible refine LeO.bind ?_ (fun _ => ?_))
   | exact ih0 _ _ _ _ _ _
   | exact ih1 _ _ _ _ _ _
   | exact ih2 _ _ _ _ _ _
   | exact LeO.none _
   | refine LeO.ite ?_ ?_
   | refine LeO.bind ?_ (fun _ => ?_)
  ·intro y0 y1 y2 y3 y4 y5
   unfold caravanref5_MayItem.l0
   repeat' first
   | (with_reducible exact ih0 _ _ _ _ _ _)
   | (with_reducible exact ih1 _ _ _ _ _ _)
   | (with_reducible exact ih2 _ _ _ _ _ _)
   | (with_reducible exact LeO.refl _)
   | (with_reducible exact LeO.none _)
   | (with_reducible refine LeO.ite ?_ ?_)
   | (with_reducible refine LeO.bind ?_ (fun _ => ?_))
   | exact ih0 _ _ _ _ _ _
   | exact ih1 _ _ _ _ _ _
   | exact ih2 _ _ _ _ _ _
   | exact LeO.none _
   | refine LeO.ite ?_ ?_
   | refine LeO.bind ?_ (fun _ => ?_)
  ·intro y0 y1 y2 y3 y4 y5
   unfold caravanref5_MayItem.l1
   repeat' first
   | (with_reducible exact ih0 _ _ _ _ _ _)
   | (with_reducible exact ih1 _ _ _ _ _ _)
   | (with_reducible exact ih2 _ _ _ _ _ _)
   | (with_reducible exact LeO.refl _)
   | (with_reducible exact LeO.none _)
   | (with_reducible refine LeO.ite ?_ ?_)
   | (with_reducible refine LeO.bind ?_ (fun _ => ?_))
   | exact ih0 _ _ _ _ _ _
   | exact ih1 _ _ _ _ _ _
   | exact ih2 _ _ _ _ _ _
   | exact LeO.none _
   | refine LeO.ite ?_ ?_
   | refine LeO.bind ?_ (fun _ => ?_)
theorem caravanref5_MayItem.mono : ∀ a0 a1 a2 a3 a4 k, LeO (caravanref5_MayItem.f k a0 a1 a2 a3 a4) (caravanref5_MayItem.f (k + 1) a0 a1 a2 a3 a4) := by
 intro a0 a1 a2 a3 a4 k
 obtain ⟨ih0, ih1, ih2⟩ := caravanref5_MayItem.mono_l k
 unfold caravanref5_MayItem.f
 repeat' first
  | (with_reducible exact ih0 _ _ _ _ _ _)
  | (with_reducible exact ih1 _ _ _ _ _ _)
  | (with_reducible exact ih2 _ _ _ _ _ _)
  | (with_reducible exact LeO.refl _)
  | (with_reducible exact LeO.none _)
  | (with_reducible refine LeO.ite ?_ ?_)
  | (with_reducible refine LeO.bind ?_ (fun _ => ?_))
  | exact ih0 _ _ _ _ _ _
  | exact ih1 _ _ _ _ _ _
  | exact ih2 _ _ _ _ _ _
  | exact LeO.none _
  | refine LeO.ite ?_ ?_
  | refine LeO.bind ?_ (fun _ => ?_)
set_option maxHeartbeats 8000000 in
set_option maxRecDepth 100000 in
theorem caravanref5_MayItem.calls (k : Nat) (a0_0 : Int) (a0_1 : ByteArray) (A0_2 : Option Addr) (c0_2 : Nat) (l0_2 : List (S29)) (A0_3 : Option Addr) (c0_3 : Nat) (l0_3 : List ByteArray) (a0_4 : Int) (r : Bool) (w : World) (hr0_2 : Kd.C k29 w A0_2 l0_2.length l0_2) (hc0_2 : l0_2.length ≤ c0_2) (hr0_3 : Kd.C Kd.string w A0_3 l0_3.length l0_3) (hc0_3 : l0_3.length ≤ c0_3) (h : caravanref5_MayItem.f k a0_0 a0_1 l0_2 l0_3 a0_4 = some r) :
 Calls Try.prog 12 #[.agg #[.int .i64 a0_0, .string a0_1, .slice A0_2 l0_2.length c0_2, .slice A0_3 l0_3.length c0_3, .int .i64 a0_4]] w fun e w' => e = .returned (.bool r) ∧ Below w.heap.size w w' := by
 have hu26 := Try.underlying26
 have HR0_2 := Aside0.mk hr0_2
 have HC0_2 := Aside0.mk hc0_2
 clear hr0_2 hc0_2
 have HR0_3 := Aside0.mk hr0_3
 have HC0_3 := Aside0.mk hc0_3
 clear hr0_3 hc0_3
 have HB := Aside0.mk (Below.refl w.heap.size w)
 have H : ((caravanref5_bare.f a0_0 a0_1 l0_2 l0_3 a0_4).bind fun t359 => (if t359 = true then (if (a0_1.size : Int) > 300 then (caravanref5_MayItem.j0 k true a0_0 a0_1 l0_2 l0_3 a0_4) else (if (l0_2.length : Int) > 40 then (caravanref5_MayItem.j0 k true a0_0 a0_1 l0_2 l0_3 a0_4) else (if (l0_3.length : Int) > 40 then (caravanref5_MayItem.j0 k true a0_0 a0_1 l0_2 l0_3 a0_4) else (if a0_4 < 0 then (caravanref5_MayItem.j0 k true a0_0 a0_1 l0_2 l0_3 a0_4) else (caravanref5_MayItem.j0 k (decide (a0_4 > 9007199254740992)) a0_0 a0_1 l0_2 l0_3 a0_4))))) else (caravanref5_MayItem.j0 k true a0_0 a0_1 l0_2 l0_3 a0_4))) = some r := h
 clear h
 have HC2 := Aside0.mk H
 clear H
 go_enter Try.func12, Try.ntmps12
 go_upto_region 1 with (first | ((with_reducible refine gate_dst (N := 1) rfl ?_); (try (refine gate_guard (by rfl) ?_; dsimp only)); refine box_event ?hg (N := 1) ?hd (cs := #[.int .i64 a0_0, .string a0_1, .slice A0_2 l0_2.length c0_2, .slice A0_3 l0_3.length c0_3, .int .i64 a0_4]) (t := 26) ?hr ?_; (case hd => rfl); (case hg => rfl); (case hr => first | (go_simp; done) | (go_simp; rfl)); intro gb358 hg w3 hbox hb; have n0_ := Aside0.mk (below_step (q2_ HB.out) hb); have n1_ := Aside0.mk (hbox); have n2_ := Aside0.mk ((by rw [hg]; exact (below_size (q2_ HB.out)) : w.heap.size ≤ gb358)); have n3_ := Aside0.mk ((by rw [hg]; exact (below_size (q2_ HB.out)) : w.heap.size ≤ gb358)); clear HB; have HB := n0_; have BK358 := n1_; have GW358 := n2_; have GE358 := n3_; clear n0_ n1_ n2_ n3_; clear hb hbox hg))
 repeat (go_quiet (first | ((with_reducible refine gate_dst (N := 1) rfl ?_); (try (refine gate_guard (by rfl) ?_; dsimp only)); refine box_event ?hg (N := 1) ?hd (cs := #[.int .i64 a0_0, .string a0_1, .slice A0_2 l0_2.length c0_2, .slice A0_3 l0_3.length c0_3, .int .i64 a0_4]) (t := 26) ?hr ?_; (case hd => rfl); (case hg => rfl); (case hr => first | (go_simp; done) | (go_simp; rfl)); intro gb358 hg w3 hbox hb; have n0_ := Aside0.mk (below_step (q2_ HB.out) hb); have n1_ := Aside0.mk (hbox); have n2_ := Aside0.mk ((by rw [hg]; exact (below_size (q2_ HB.out)) : w.heap.size ≤ gb358)); have n3_ := Aside0.mk ((by rw [hg]; exact (below_size (q2_ HB.out)) : w.heap.size ≤ gb358)); clear HB; have HB := n0_; have BK358 := n1_; have GW358 := n2_; have GE358 := n3_; clear n0_ n1_ n2_ n3_; clear hb hbox hg)); go_upto_region 1 with (first | ((with_reducible refine gate_dst (N := 1) rfl ?_); (try (refine gate_guard (by rfl) ?_; dsimp only)); refine box_event ?hg (N := 1) ?hd (cs := #[.int .i64 a0_0, .string a0_1, .slice A0_2 l0_2.length c0_2, .slice A0_3 l0_3.length c0_3, .int .i64 a0_4]) (t := 26) ?hr ?_; (case hd => rfl); (case hg => rfl); (case hr => first | (go_simp; done) | (go_simp; rfl)); intro gb358 hg w3 hbox hb; have n0_ := Aside0.mk (below_step (q2_ HB.out) hb); have n1_ := Aside0.mk (hbox); have n2_ := Aside0.mk ((by rw [hg]; exact (below_size (q2_ HB.out)) : w.heap.size ≤ gb358)); have n3_ := Aside0.mk ((by rw [hg]; exact (below_size (q2_ HB.out)) : w.heap.size ≤ gb358)); clear HB; have HB := n0_; have BK358 := n1_; have GW358 := n2_; have GE358 := n3_; clear n0_ n1_ n2_ n3_; clear hb hbox hg)))
 (try simp only [Act.put, List.setIfInBounds_toArray, List.set_cons_zero, List.set_cons_succ])
 go_cut [35] (fun v35 wc => ∃ (kq : Nat) (x35_1 : Bool), v35 = .bool x35_1 ∧ Aside0 (caravanref5_MayItem.j0 kq x35_1 a0_0 a0_1 l0_2 l0_3 a0_4 = some r) ∧ Aside0 (kq ≤ k) ∧ Aside0 (wc.heap[gb358]? = some (.cells #[.int .i64 a0_0, .string a0_1, (.slice A0_2 l0_2.length c0_2), (.slice A0_3 l0_3.length c0_3), .int .i64 a0_4] 26 (0, 0))) ∧ Aside0 (Below w.heap.size w wc))
 case first =>
  have H := HC2.out
  clear HC2
  replace H := Option.bind_eq_some_iff.mp H
  obtain ⟨t359, A40, H⟩ := H
  replace H : (if t359 = true then (if (a0_1.size : Int) > 300 then (caravanref5_MayItem.j0 k true a0_0 a0_1 l0_2 l0_3 a0_4) else (if (l0_2.length : Int) > 40 then (caravanref5_MayItem.j0 k true a0_0 a0_1 l0_2 l0_3 a0_4) else (if (l0_3.length : Int) > 40 then (caravanref5_MayItem.j0 k true a0_0 a0_1 l0_2 l0_3 a0_4) else (if a0_4 < 0 then (caravanref5_MayItem.j0 k true a0_0 a0_1 l0_2 l0_3 a0_4) else (caravanref5_MayItem.j0 k (decide (a0_4 > 9007199254740992)) a0_0 a0_1 l0_2 l0_3 a0_4))))) else (caravanref5_MayItem.j0 k true a0_0 a0_1 l0_2 l0_3 a0_4)) = some r := H
  have A4 := Aside0.mk A40
  clear A40
  by_cases c5 : t359 = true
  ·subst c5
   have H1 : (if (a0_1.size : Int) > 300 then (caravanref5_MayItem.j0 k true a0_0 a0_1 l0_2 l0_3 a0_4) else (if (l0_2.length : Int) > 40 then (caravanref5_MayItem.j0 k true a0_0 a0_1 l0_2 l0_3 a0_4) else (if (l0_3.length : Int) > 40 then (caravanref5_MayItem.j0 k true a0_0 a0_1 l0_2 l0_3 a0_4) else (if a0_4 < 0 then (caravanref5_MayItem.j0 k true a0_0 a0_1 l0_2 l0_3 a0_4) else (caravanref5_MayItem.j0 k (decide (a0_4 > 9007199254740992)) a0_0 a0_1 l0_2 l0_3 a0_4))))) = some r := by rw [if_pos rfl] at H; exact H
   clear H
   have H := H1
   clear H1
   by_cases c6 : (a0_1.size : Int) > 300
   ·rw [if_pos c6] at H
    have c6b0 : decide (300 < (a0_1.size : Int)) = true := decide_eq_true c6
    have c6b1 : decide (300 < a0_1.size) = true := decide_eq_true (by omega)
    clear c6
    (first | rw [c6b0] | (simp only [i64_w, i32_w]; rw [c6b0]) | skip)
    have H' := Aside0.mk H
    clear H
    have hcz7_0 : w3.cell? ⟨gb358, 0, none⟩ = some (.int .i64 a0_0) := (blk_cell BK358.out 0).trans rfl
    have hcz7_1 : w3.cell? ⟨gb358, 1, none⟩ = some (.string a0_1) := (blk_cell BK358.out 1).trans rfl
    have hcz7_2 : w3.cell? ⟨gb358, 2, none⟩ = some (.slice A0_2 l0_2.length c0_2) := (blk_cell BK358.out 2).trans rfl
    have hcz7_3 : w3.cell? ⟨gb358, 3, none⟩ = some (.slice A0_3 l0_3.length c0_3) := (blk_cell BK358.out 3).trans rfl
    have hcz7_4 : w3.cell? ⟨gb358, 4, none⟩ = some (.int .i64 a0_4) := (blk_cell BK358.out 4).trans rfl
    have hfz7_0 := blk_frozen BK358.out 0
    have hfz7_1 := blk_frozen BK358.out 1
    have hfz7_2 := blk_frozen BK358.out 2
    have hfz7_3 := blk_frozen BK358.out 3
    have hfz7_4 := blk_frozen BK358.out 4
    go_wp2_with (first | (go_at_call 23; (with_reducible refine (caravanref5_bare.calls a0_0 a0_1 _ _ l0_2 _ _ l0_3 a0_4 true _ ?side1 ?side2 ?side3 ?side4 A4.out).mono ?_); (case side1 => exact qC_ ((Kd.C_below HR0_2.out HB.out))); (case side2 => exact HC0_2.out); (case side3 => exact qC_ ((Kd.C_below HR0_3.out HB.out))); (case side4 => exact HC0_3.out); rintro e w8 ⟨rfl, hb⟩; have n0_ := Aside0.mk (blk_below (g := gb358) (o := .cells #[.int .i64 a0_0, .string a0_1, .slice A0_2 l0_2.length c0_2, .slice A0_3 l0_3.length c0_3, .int .i64 a0_4] 26 (0, 0)) (q3_ BK358.out) hb); have n1_ := Aside0.mk (below_step (q4_ HB.out GE358.out) hb); clear BK358; clear HB; have BK358 := n0_; have HB := n1_; clear n0_ n1_; (try clear hb); (try clear hb2); (try clear hk); (try clear hi); have hcz9_0 : w8.cell? ⟨gb358, 0, none⟩ = some (.int .i64 a0_0) := (blk_cell BK358.out 0).trans rfl; have hcz9_1 : w8.cell? ⟨gb358, 1, none⟩ = some (.string a0_1) := (blk_cell BK358.out 1).trans rfl; have hcz9_2 : w8.cell? ⟨gb358, 2, none⟩ = some (.slice A0_2 l0_2.length c0_2) := (blk_cell BK358.out 2).trans rfl; have hcz9_3 : w8.cell? ⟨gb358, 3, none⟩ = some (.slice A0_3 l0_3.length c0_3) := (blk_cell BK358.out 3).trans rfl; have hcz9_4 : w8.cell? ⟨gb358, 4, none⟩ = some (.int .i64 a0_4) := (blk_cell BK358.out 4).trans rfl; have hfz9_0 := blk_frozen BK358.out 0; have hfz9_1 := blk_frozen BK358.out 1; have hfz9_2 := blk_frozen BK358.out 2; have hfz9_3 := blk_frozen BK358.out 3; have hfz9_4 := blk_frozen BK358.out 4))
    repeat (go_quiet (first | (go_at_call 23; (with_reducible refine (caravanref5_bare.calls a0_0 a0_1 _ _ l0_2 _ _ l0_3 a0_4 true _ ?side1 ?side2 ?side3 ?side4 A4.out).mono ?_); (case side1 => exact qC_ ((Kd.C_below HR0_2.out HB.out))); (case side2 => exact HC0_2.out); (case side3 => exact qC_ ((Kd.C_below HR0_3.out HB.out))); (case side4 => exact HC0_3.out); rintro e w8 ⟨rfl, hb⟩; have n0_ := Aside0.mk (blk_below (g := gb358) (o := .cells #[.int .i64 a0_0, .string a0_1, .slice A0_2 l0_2.length c0_2, .slice A0_3 l0_3.length c0_3, .int .i64 a0_4] 26 (0, 0)) (q3_ BK358.out) hb); have n1_ := Aside0.mk (below_step (q4_ HB.out GE358.out) hb); clear BK358; clear HB; have BK358 := n0_; have HB := n1_; clear n0_ n1_; (try clear hb); (try clear hb2); (try clear hk); (try clear hi); have hcz9_0 : w8.cell? ⟨gb358, 0, none⟩ = some (.int .i64 a0_0) := (blk_cell BK358.out 0).trans rfl; have hcz9_1 : w8.cell? ⟨gb358, 1, none⟩ = some (.string a0_1) := (blk_cell BK358.out 1).trans rfl; have hcz9_2 : w8.cell? ⟨gb358, 2, none⟩ = some (.slice A0_2 l0_2.length c0_2) := (blk_cell BK358.out 2).trans rfl; have hcz9_3 : w8.cell? ⟨gb358, 3, none⟩ = some (.slice A0_3 l0_3.length c0_3) := (blk_cell BK358.out 3).trans rfl; have hcz9_4 : w8.cell? ⟨gb358, 4, none⟩ = some (.int .i64 a0_4) := (blk_cell BK358.out 4).trans rfl; have hfz9_0 := blk_frozen BK358.out 0; have hfz9_1 := blk_frozen BK358.out 1; have hfz9_2 := blk_frozen BK358.out 2; have hfz9_3 := blk_frozen BK358.out 3; have hfz9_4 := blk_frozen BK358.out 4)); try go_wp2_with (first | (go_at_call 23; (with_reducible refine (caravanref5_bare.calls a0_0 a0_1 _ _ l0_2 _ _ l0_3 a0_4 true _ ?side1 ?side2 ?side3 ?side4 A4.out).mono ?_); (case side1 => exact qC_ ((Kd.C_below HR0_2.out HB.out))); (case side2 => exact HC0_2.out); (case side3 => exact qC_ ((Kd.C_below HR0_3.out HB.out))); (case side4 => exact HC0_3.out); rintro e w8 ⟨rfl, hb⟩; have n0_ := Aside0.mk (blk_below (g := gb358) (o := .cells #[.int .i64 a0_0, .string a0_1, .slice A0_2 l0_2.length c0_2, .slice A0_3 l0_3.length c0_3, .int .i64 a0_4] 26 (0, 0)) (q3_ BK358.out) hb); have n1_ := Aside0.mk (below_step (q4_ HB.out GE358.out) hb); clear BK358; clear HB; have BK358 := n0_; have HB := n1_; clear n0_ n1_; (try clear hb); (try clear hb2); (try clear hk); (try clear hi); have hcz9_0 : w8.cell? ⟨gb358, 0, none⟩ = some (.int .i64 a0_0) := (blk_cell BK358.out 0).trans rfl; have hcz9_1 : w8.cell? ⟨gb358, 1, none⟩ = some (.string a0_1) := (blk_cell BK358.out 1).trans rfl; have hcz9_2 : w8.cell? ⟨gb358, 2, none⟩ = some (.slice A0_2 l0_2.length c0_2) := (blk_cell BK358.out 2).trans rfl; have hcz9_3 : w8.cell? ⟨gb358, 3, none⟩ = some (.slice A0_3 l0_3.length c0_3) := (blk_cell BK358.out 3).trans rfl; have hcz9_4 : w8.cell? ⟨gb358, 4, none⟩ = some (.int .i64 a0_4) := (blk_cell BK358.out 4).trans rfl; have hfz9_0 := blk_frozen BK358.out 0; have hfz9_1 := blk_frozen BK358.out 1; have hfz9_2 := blk_frozen BK358.out 2; have hfz9_3 := blk_frozen BK358.out 3; have hfz9_4 := blk_frozen BK358.out 4)))
    go_meet
    case rel => exact ⟨_, (true), (by first | rfl | (simp; done) | (simp [*]; done)), H', ⟨by first | omega | exact Nat.le_refl _⟩, ⟨by (with_reducible repeat (first | refine blk_drewN ?_ _ | refine blk_drew ?_ | refine blk_alloc ?_ _)); exact BK358.out⟩, ⟨(q4_ HB.out GE358.out)⟩⟩
   ·rw [if_neg c6] at H
    have c6b0 : decide (300 < (a0_1.size : Int)) = false := decide_eq_false c6
    have c6b1 : decide (300 < a0_1.size) = false := decide_eq_false (by omega)
    clear c6
    (first | rw [c6b0] | (simp only [i64_w, i32_w]; rw [c6b0]) | skip)
    by_cases c10 : (l0_2.length : Int) > 40
    ·rw [if_pos c10] at H
     have c10b0 : decide (40 < (l0_2.length : Int)) = true := decide_eq_true c10
     have c10b1 : decide (40 < l0_2.length) = true := decide_eq_true (by omega)
     clear c10
     have H' := Aside0.mk H
     clear H
     have hcz11_0 : w3.cell? ⟨gb358, 0, none⟩ = some (.int .i64 a0_0) := (blk_cell BK358.out 0).trans rfl
     have hcz11_1 : w3.cell? ⟨gb358, 1, none⟩ = some (.string a0_1) := (blk_cell BK358.out 1).trans rfl
     have hcz11_2 : w3.cell? ⟨gb358, 2, none⟩ = some (.slice A0_2 l0_2.length c0_2) := (blk_cell BK358.out 2).trans rfl
     have hcz11_3 : w3.cell? ⟨gb358, 3, none⟩ = some (.slice A0_3 l0_3.length c0_3) := (blk_cell BK358.out 3).trans rfl
     have hcz11_4 : w3.cell? ⟨gb358, 4, none⟩ = some (.int .i64 a0_4) := (blk_cell BK358.out 4).trans rfl
     have hfz11_0 := blk_frozen BK358.out 0
     have hfz11_1 := blk_frozen BK358.out 1
     have hfz11_2 := blk_frozen BK358.out 2
     have hfz11_3 := blk_frozen BK358.out 3
     have hfz11_4 := blk_frozen BK358.out 4
     go_wp2_with (first | (go_at_call 23; (with_reducible refine (caravanref5_bare.calls a0_0 a0_1 _ _ l0_2 _ _ l0_3 a0_4 true _ ?side1 ?side2 ?side3 ?side4 A4.out).mono ?_); (case side1 => exact qC_ ((Kd.C_below HR0_2.out HB.out))); (case side2 => exact HC0_2.out); (case side3 => exact qC_ ((Kd.C_below HR0_3.out HB.out))); (case side4 => exact HC0_3.out); rintro e w12 ⟨rfl, hb⟩; have n0_ := Aside0.mk (blk_below (g := gb358) (o := .cells #[.int .i64 a0_0, .string a0_1, .slice A0_2 l0_2.length c0_2, .slice A0_3 l0_3.length c0_3, .int .i64 a0_4] 26 (0, 0)) (q3_ BK358.out) hb); have n1_ := Aside0.mk (below_step (q4_ HB.out GE358.out) hb); clear BK358; clear HB; have BK358 := n0_; have HB := n1_; clear n0_ n1_; (try clear hb); (try clear hb2); (try clear hk); (try clear hi); have hcz13_0 : w12.cell? ⟨gb358, 0, none⟩ = some (.int .i64 a0_0) := (blk_cell BK358.out 0).trans rfl; have hcz13_1 : w12.cell? ⟨gb358, 1, none⟩ = some (.string a0_1) := (blk_cell BK358.out 1).trans rfl; have hcz13_2 : w12.cell? ⟨gb358, 2, none⟩ = some (.slice A0_2 l0_2.length c0_2) := (blk_cell BK358.out 2).trans rfl; have hcz13_3 : w12.cell? ⟨gb358, 3, none⟩ = some (.slice A0_3 l0_3.length c0_3) := (blk_cell BK358.out 3).trans rfl; have hcz13_4 : w12.cell? ⟨gb358, 4, none⟩ = some (.int .i64 a0_4) := (blk_cell BK358.out 4).trans rfl; have hfz13_0 := blk_frozen BK358.out 0; have hfz13_1 := blk_frozen BK358.out 1; have hfz13_2 := blk_frozen BK358.out 2; have hfz13_3 := blk_frozen BK358.out 3; have hfz13_4 := blk_frozen BK358.out 4))
     repeat (go_quiet (first | (go_at_call 23; (with_reducible refine (caravanref5_bare.calls a0_0 a0_1 _ _ l0_2 _ _ l0_3 a0_4 true _ ?side1 ?side2 ?side3 ?side4 A4.out).mono ?_); (case side1 => exact qC_ ((Kd.C_below HR0_2.out HB.out))); (case side2 => exact HC0_2.out); (case side3 => exact qC_ ((Kd.C_below HR0_3.out HB.out))); (case side4 => exact HC0_3.out); rintro e w12 ⟨rfl, hb⟩; have n0_ := Aside0.mk (blk_below (g := gb358) (o := .cells #[.int .i64 a0_0, .string a0_1, .slice A0_2 l0_2.length c0_2, .slice A0_3 l0_3.length c0_3, .int .i64 a0_4] 26 (0, 0)) (q3_ BK358.out) hb); have n1_ := Aside0.mk (below_step (q4_ HB.out GE358.out) hb); clear BK358; clear HB; have BK358 := n0_; have HB := n1_; clear n0_ n1_; (try clear hb); (try clear hb2); (try clear hk); (try clear hi); have hcz13_0 : w12.cell? ⟨gb358, 0, none⟩ = some (.int .i64 a0_0) := (blk_cell BK358.out 0).trans rfl; have hcz13_1 : w12.cell? ⟨gb358, 1, none⟩ = some (.string a0_1) := (blk_cell BK358.out 1).trans rfl; have hcz13_2 : w12.cell? ⟨gb358, 2, none⟩ = some (.slice A0_2 l0_2.length c0_2) := (blk_cell BK358.out 2).trans rfl; have hcz13_3 : w12.cell? ⟨gb358, 3, none⟩ = some (.slice A0_3 l0_3.length c0_3) := (blk_cell BK358.out 3).trans rfl; have hcz13_4 : w12.cell? ⟨gb358, 4, none⟩ = some (.int .i64 a0_4) := (blk_cell BK358.out 4).trans rfl; have hfz13_0 := blk_frozen BK358.out 0; have hfz13_1 := blk_frozen BK358.out 1; have hfz13_2 := blk_frozen BK358.out 2; have hfz13_3 := blk_frozen BK358.out 3; have hfz13_4 := blk_frozen BK358.out 4)); try go_wp2_with (first | (go_at_call 23; (with_reducible refine (caravanref5_bare.calls a0_0 a0_1 _ _ l0_2 _ _ l0_3 a0_4 true _ ?side1 ?side2 ?side3 ?side4 A4.out).mono ?_); (case side1 => exact qC_ ((Kd.C_below HR0_2.out HB.out))); (case side2 => exact HC0_2.out); (case side3 => exact qC_ ((Kd.C_below HR0_3.out HB.out))); (case side4 => exact HC0_3.out); rintro e w12 ⟨rfl, hb⟩; have n0_ := Aside0.mk (blk_below (g := gb358) (o := .cells #[.int .i64 a0_0, .string a0_1, .slice A0_2 l0_2.length c0_2, .slice A0_3 l0_3.length c0_3, .int .i64 a0_4] 26 (0, 0)) (q3_ BK358.out) hb); have n1_ := Aside0.mk (below_step (q4_ HB.out GE358.out) hb); clear BK358; clear HB; have BK358 := n0_; have HB := n1_; clear n0_ n1_; (try clear hb); (try clear hb2); (try clear hk); (try clear hi); have hcz13_0 : w12.cell? ⟨gb358, 0, none⟩ = some (.int .i64 a0_0) := (blk_cell BK358.out 0).trans rfl; have hcz13_1 : w12.cell? ⟨gb358, 1, none⟩ = some (.string a0_1) := (blk_cell BK358.out 1).trans rfl; have hcz13_2 : w12.cell? ⟨gb358, 2, none⟩ = some (.slice A0_2 l0_2.length c0_2) := (blk_cell BK358.out 2).trans rfl; have hcz13_3 : w12.cell? ⟨gb358, 3, none⟩ = some (.slice A0_3 l0_3.length c0_3) := (blk_cell BK358.out 3).trans rfl; have hcz13_4 : w12.cell? ⟨gb358, 4, none⟩ = some (.int .i64 a0_4) := (blk_cell BK358.out 4).trans rfl; have hfz13_0 := blk_frozen BK358.out 0; have hfz13_1 := blk_frozen BK358.out 1; have hfz13_2 := blk_frozen BK358.out 2; have hfz13_3 := blk_frozen BK358.out 3; have hfz13_4 := blk_frozen BK358.out 4)))
     go_meet
     case rel => exact ⟨_, (true), (by first | rfl | (simp; done) | (simp [*]; done)), H', ⟨by first | omega | exact Nat.le_refl _⟩, ⟨by (with_reducible repeat (first | refine blk_drewN ?_ _ | refine blk_drew ?_ | refine blk_alloc ?_ _)); exact BK358.out⟩, ⟨(q4_ HB.out GE358.out)⟩⟩
    ·rw [if_neg c10] at H
     have c10b0 : decide (40 < (l0_2.length : Int)) = false := decide_eq_false c10
     have c10b1 : decide (40 < l0_2.length) = false := decide_eq_false (by omega)
     clear c10
     by_cases c14 : (l0_3.length : Int) > 40
     ·rw [if_pos c14] at H
      have c14b0 : decide (40 < (l0_3.length : Int)) = true := decide_eq_true c14
      have c14b1 : decide (40 < l0_3.length) = true := decide_eq_true (by omega)
      clear c14
      have H' := Aside0.mk H
      clear H
      have hcz15_0 : w3.cell? ⟨gb358, 0, none⟩ = some (.int .i64 a0_0) := (blk_cell BK358.out 0).trans rfl
      have hcz15_1 : w3.cell? ⟨gb358, 1, none⟩ = some (.string a0_1) := (blk_cell BK358.out 1).trans rfl
      have hcz15_2 : w3.cell? ⟨gb358, 2, none⟩ = some (.slice A0_2 l0_2.length c0_2) := (blk_cell BK358.out 2).trans rfl
      have hcz15_3 : w3.cell? ⟨gb358, 3, none⟩ = some (.slice A0_3 l0_3.length c0_3) := (blk_cell BK358.out 3).trans rfl
      have hcz15_4 : w3.cell? ⟨gb358, 4, none⟩ = some (.int .i64 a0_4) := (blk_cell BK358.out 4).trans rfl
      have hfz15_0 := blk_frozen BK358.out 0
      have hfz15_1 := blk_frozen BK358.out 1
      have hfz15_2 := blk_frozen BK358.out 2
      have hfz15_3 := blk_frozen BK358.out 3
      have hfz15_4 := blk_frozen BK358.out 4
      go_wp2_with (first | (go_at_call 23; (with_reducible refine (caravanref5_bare.calls a0_0 a0_1 _ _ l0_2 _ _ l0_3 a0_4 true _ ?side1 ?side2 ?side3 ?side4 A4.out).mono ?_); (case side1 => exact qC_ ((Kd.C_below HR0_2.out HB.out))); (case side2 => exact HC0_2.out); (case side3 => exact qC_ ((Kd.C_below HR0_3.out HB.out))); (case side4 => exact HC0_3.out); rintro e w16 ⟨rfl, hb⟩; have n0_ := Aside0.mk (blk_below (g := gb358) (o := .cells #[.int .i64 a0_0, .string a0_1, .slice A0_2 l0_2.length c0_2, .slice A0_3 l0_3.length c0_3, .int .i64 a0_4] 26 (0, 0)) (q3_ BK358.out) hb); have n1_ := Aside0.mk (below_step (q4_ HB.out GE358.out) hb); clear BK358; clear HB; have BK358 := n0_; have HB := n1_; clear n0_ n1_; (try clear hb); (try clear hb2); (try clear hk); (try clear hi); have hcz17_0 : w16.cell? ⟨gb358, 0, none⟩ = some (.int .i64 a0_0) := (blk_cell BK358.out 0).trans rfl; have hcz17_1 : w16.cell? ⟨gb358, 1, none⟩ = some (.string a0_1) := (blk_cell BK358.out 1).trans rfl; have hcz17_2 : w16.cell? ⟨gb358, 2, none⟩ = some (.slice A0_2 l0_2.length c0_2) := (blk_cell BK358.out 2).trans rfl; have hcz17_3 : w16.cell? ⟨gb358, 3, none⟩ = some (.slice A0_3 l0_3.length c0_3) := (blk_cell BK358.out 3).trans rfl; have hcz17_4 : w16.cell? ⟨gb358, 4, none⟩ = some (.int .i64 a0_4) := (blk_cell BK358.out 4).trans rfl; have hfz17_0 := blk_frozen BK358.out 0; have hfz17_1 := blk_frozen BK358.out 1; have hfz17_2 := blk_frozen BK358.out 2; have hfz17_3 := blk_frozen BK358.out 3; have hfz17_4 := blk_frozen BK358.out 4))
      repeat (go_quiet (first | (go_at_call 23; (with_reducible refine (caravanref5_bare.calls a0_0 a0_1 _ _ l0_2 _ _ l0_3 a0_4 true _ ?side1 ?side2 ?side3 ?side4 A4.out).mono ?_); (case side1 => exact qC_ ((Kd.C_below HR0_2.out HB.out))); (case side2 => exact HC0_2.out); (case side3 => exact qC_ ((Kd.C_below HR0_3.out HB.out))); (case side4 => exact HC0_3.out); rintro e w16 ⟨rfl, hb⟩; have n0_ := Aside0.mk (blk_below (g := gb358) (o := .cells #[.int .i64 a0_0, .string a0_1, .slice A0_2 l0_2.length c0_2, .slice A0_3 l0_3.length c0_3, .int .i64 a0_4] 26 (0, 0)) (q3_ BK358.out) hb); have n1_ := Aside0.mk (below_step (q4_ HB.out GE358.out) hb); clear BK358; clear HB; have BK358 := n0_; have HB := n1_; clear n0_ n1_; (try clear hb); (try clear hb2); (try clear hk); (try clear hi); have hcz17_0 : w16.cell? ⟨gb358, 0, none⟩ = some (.int .i64 a0_0) := (blk_cell BK358.out 0).trans rfl; have hcz17_1 : w16.cell? ⟨gb358, 1, none⟩ = some (.string a0_1) := (blk_cell BK358.out 1).trans rfl; have hcz17_2 : w16.cell? ⟨gb358, 2, none⟩ = some (.slice A0_2 l0_2.length c0_2) := (blk_cell BK358.out 2).trans rfl; have hcz17_3 : w16.cell? ⟨gb358, 3, none⟩ = some (.slice A0_3 l0_3.length c0_3) := (blk_cell BK358.out 3).trans rfl; have hcz17_4 : w16.cell? ⟨gb358, 4, none⟩ = some (.int .i64 a0_4) := (blk_cell BK358.out 4).trans rfl; have hfz17_0 := blk_frozen BK358.out 0; have hfz17_1 := blk_frozen BK358.out 1; have hfz17_2 := blk_frozen BK358.out 2; have hfz17_3 := blk_frozen BK358.out 3; have hfz17_4 := blk_frozen BK358.out 4)); try go_wp2_with (first | (go_at_call 23; (with_reducible refine (caravanref5_bare.calls a0_0 a0_1 _ _ l0_2 _ _ l0_3 a0_4 true _ ?side1 ?side2 ?side3 ?side4 A4.out).mono ?_); (case side1 => exact qC_ ((Kd.C_below HR0_2.out HB.out))); (case side2 => exact HC0_2.out); (case side3 => exact qC_ ((Kd.C_below HR0_3.out HB.out))); (case side4 => exact HC0_3.out); rintro e w16 ⟨rfl, hb⟩; have n0_ := Aside0.mk (blk_below (g := gb358) (o := .cells #[.int .i64 a0_0, .string a0_1, .slice A0_2 l0_2.length c0_2, .slice A0_3 l0_3.length c0_3, .int .i64 a0_4] 26 (0, 0)) (q3_ BK358.out) hb); have n1_ := Aside0.mk (below_step (q4_ HB.out GE358.out) hb); clear BK358; clear HB; have BK358 := n0_; have HB := n1_; clear n0_ n1_; (try clear hb); (try clear hb2); (try clear hk); (try clear hi); have hcz17_0 : w16.cell? ⟨gb358, 0, none⟩ = some (.int .i64 a0_0) := (blk_cell BK358.out 0).trans rfl; have hcz17_1 : w16.cell? ⟨gb358, 1, none⟩ = some (.string a0_1) := (blk_cell BK358.out 1).trans rfl; have hcz17_2 : w16.cell? ⟨gb358, 2, none⟩ = some (.slice A0_2 l0_2.length c0_2) := (blk_cell BK358.out 2).trans rfl; have hcz17_3 : w16.cell? ⟨gb358, 3, none⟩ = some (.slice A0_3 l0_3.length c0_3) := (blk_cell BK358.out 3).trans rfl; have hcz17_4 : w16.cell? ⟨gb358, 4, none⟩ = some (.int .i64 a0_4) := (blk_cell BK358.out 4).trans rfl; have hfz17_0 := blk_frozen BK358.out 0; have hfz17_1 := blk_frozen BK358.out 1; have hfz17_2 := blk_frozen BK358.out 2; have hfz17_3 := blk_frozen BK358.out 3; have hfz17_4 := blk_frozen BK358.out 4)))
      go_meet
      case rel => exact ⟨_, (true), (by first | rfl | (simp; done) | (simp [*]; done)), H', ⟨by first | omega | exact Nat.le_refl _⟩, ⟨by (with_reducible repeat (first | refine blk_drewN ?_ _ | refine blk_drew ?_ | refine blk_alloc ?_ _)); exact BK358.out⟩, ⟨(q4_ HB.out GE358.out)⟩⟩
     ·rw [if_neg c14] at H
      have c14b0 : decide (40 < (l0_3.length : Int)) = false := decide_eq_false c14
      have c14b1 : decide (40 < l0_3.length) = false := decide_eq_false (by omega)
      clear c14
      by_cases c18 : a0_4 < 0
      ·rw [if_pos c18] at H
       have c18b0 : decide (a0_4 < 0) = true := decide_eq_true c18
       clear c18
       have H' := Aside0.mk H
       clear H
       have hcz19_0 : w3.cell? ⟨gb358, 0, none⟩ = some (.int .i64 a0_0) := (blk_cell BK358.out 0).trans rfl
       have hcz19_1 : w3.cell? ⟨gb358, 1, none⟩ = some (.string a0_1) := (blk_cell BK358.out 1).trans rfl
       have hcz19_2 : w3.cell? ⟨gb358, 2, none⟩ = some (.slice A0_2 l0_2.length c0_2) := (blk_cell BK358.out 2).trans rfl
       have hcz19_3 : w3.cell? ⟨gb358, 3, none⟩ = some (.slice A0_3 l0_3.length c0_3) := (blk_cell BK358.out 3).trans rfl
       have hcz19_4 : w3.cell? ⟨gb358, 4, none⟩ = some (.int .i64 a0_4) := (blk_cell BK358.out 4).trans rfl
       have hfz19_0 := blk_frozen BK358.out 0
       have hfz19_1 := blk_frozen BK358.out 1
       have hfz19_2 := blk_frozen BK358.out 2
       have hfz19_3 := blk_frozen BK358.out 3
       have hfz19_4 := blk_frozen BK358.out 4
       go_wp2_with (first | (go_at_call 23; (with_reducible refine (caravanref5_bare.calls a0_0 a0_1 _ _ l0_2 _ _ l0_3 a0_4 true _ ?side1 ?side2 ?side3 ?side4 A4.out).mono ?_); (case side1 => exact qC_ ((Kd.C_below HR0_2.out HB.out))); (case side2 => exact HC0_2.out); (case side3 => exact qC_ ((Kd.C_below HR0_3.out HB.out))); (case side4 => exact HC0_3.out); rintro e w20 ⟨rfl, hb⟩; have n0_ := Aside0.mk (blk_below (g := gb358) (o := .cells #[.int .i64 a0_0, .string a0_1, .slice A0_2 l0_2.length c0_2, .slice A0_3 l0_3.length c0_3, .int .i64 a0_4] 26 (0, 0)) (q3_ BK358.out) hb); have n1_ := Aside0.mk (below_step (q4_ HB.out GE358.out) hb); clear BK358; clear HB; have BK358 := n0_; have HB := n1_; clear n0_ n1_; (try clear hb); (try clear hb2); (try clear hk); (try clear hi); have hcz21_0 : w20.cell? ⟨gb358, 0, none⟩ = some (.int .i64 a0_0) := (blk_cell BK358.out 0).trans rfl; have hcz21_1 : w20.cell? ⟨gb358, 1, none⟩ = some (.string a0_1) := (blk_cell BK358.out 1).trans rfl; have hcz21_2 : w20.cell? ⟨gb358, 2, none⟩ = some (.slice A0_2 l0_2.length c0_2) := (blk_cell BK358.out 2).trans rfl; have hcz21_3 : w20.cell? ⟨gb358, 3, none⟩ = some (.slice A0_3 l0_3.length c0_3) := (blk_cell BK358.out 3).trans rfl; have hcz21_4 : w20.cell? ⟨gb358, 4, none⟩ = some (.int .i64 a0_4) := (blk_cell BK358.out 4).trans rfl; have hfz21_0 := blk_frozen BK358.out 0; have hfz21_1 := blk_frozen BK358.out 1; have hfz21_2 := blk_frozen BK358.out 2; have hfz21_3 := blk_frozen BK358.out 3; have hfz21_4 := blk_frozen BK358.out 4))
       repeat (go_quiet (first | (go_at_call 23; (with_reducible refine (caravanref5_bare.calls a0_0 a0_1 _ _ l0_2 _ _ l0_3 a0_4 true _ ?side1 ?side2 ?side3 ?side4 A4.out).mono ?_); (case side1 => exact qC_ ((Kd.C_below HR0_2.out HB.out))); (case side2 => exact HC0_2.out); (case side3 => exact qC_ ((Kd.C_below HR0_3.out HB.out))); (case side4 => exact HC0_3.out); rintro e w20 ⟨rfl, hb⟩; have n0_ := Aside0.mk (blk_below (g := gb358) (o := .cells #[.int .i64 a0_0, .string a0_1, .slice A0_2 l0_2.length c0_2, .slice A0_3 l0_3.length c0_3, .int .i64 a0_4] 26 (0, 0)) (q3_ BK358.out) hb); have n1_ := Aside0.mk (below_step (q4_ HB.out GE358.out) hb); clear BK358; clear HB; have BK358 := n0_; have HB := n1_; clear n0_ n1_; (try clear hb); (try clear hb2); (try clear hk); (try clear hi); have hcz21_0 : w20.cell? ⟨gb358, 0, none⟩ = some (.int .i64 a0_0) := (blk_cell BK358.out 0).trans rfl; have hcz21_1 : w20.cell? ⟨gb358, 1, none⟩ = some (.string a0_1) := (blk_cell BK358.out 1).trans rfl; have hcz21_2 : w20.cell? ⟨gb358, 2, none⟩ = some (.slice A0_2 l0_2.length c0_2) := (blk_cell BK358.out 2).trans rfl; have hcz21_3 : w20.cell? ⟨gb358, 3, none⟩ = some (.slice A0_3 l0_3.length c0_3) := (blk_cell BK358.out 3).trans rfl; have hcz21_4 : w20.cell? ⟨gb358, 4, none⟩ = some (.int .i64 a0_4) := (blk_cell BK358.out 4).trans rfl; have hfz21_0 := blk_frozen BK358.out 0; have hfz21_1 := blk_frozen BK358.out 1; have hfz21_2 := blk_frozen BK358.out 2; have hfz21_3 := blk_frozen BK358.out 3; have hfz21_4 := blk_frozen BK358.out 4)); try go_wp2_with (first | (go_at_call 23; (with_reducible refine (caravanref5_bare.calls a0_0 a0_1 _ _ l0_2 _ _ l0_3 a0_4 true _ ?side1 ?side2 ?side3 ?side4 A4.out).mono ?_); (case side1 => exact qC_ ((Kd.C_below HR0_2.out HB.out))); (case side2 => exact HC0_2.out); (case side3 => exact qC_ ((Kd.C_below HR0_3.out HB.out))); (case side4 => exact HC0_3.out); rintro e w20 ⟨rfl, hb⟩; have n0_ := Aside0.mk (blk_below (g := gb358) (o := .cells #[.int .i64 a0_0, .string a0_1, .slice A0_2 l0_2.length c0_2, .slice A0_3 l0_3.length c0_3, .int .i64 a0_4] 26 (0, 0)) (q3_ BK358.out) hb); have n1_ := Aside0.mk (below_step (q4_ HB.out GE358.out) hb); clear BK358; clear HB; have BK358 := n0_; have HB := n1_; clear n0_ n1_; (try clear hb); (try clear hb2); (try clear hk); (try clear hi); have hcz21_0 : w20.cell? ⟨gb358, 0, none⟩ = some (.int .i64 a0_0) := (blk_cell BK358.out 0).trans rfl; have hcz21_1 : w20.cell? ⟨gb358, 1, none⟩ = some (.string a0_1) := (blk_cell BK358.out 1).trans rfl; have hcz21_2 : w20.cell? ⟨gb358, 2, none⟩ = some (.slice A0_2 l0_2.length c0_2) := (blk_cell BK358.out 2).trans rfl; have hcz21_3 : w20.cell? ⟨gb358, 3, none⟩ = some (.slice A0_3 l0_3.length c0_3) := (blk_cell BK358.out 3).trans rfl; have hcz21_4 : w20.cell? ⟨gb358, 4, none⟩ = some (.int .i64 a0_4) := (blk_cell BK358.out 4).trans rfl; have hfz21_0 := blk_frozen BK358.out 0; have hfz21_1 := blk_frozen BK358.out 1; have hfz21_2 := blk_frozen BK358.out 2; have hfz21_3 := blk_frozen BK358.out 3; have hfz21_4 := blk_frozen BK358.out 4)))
       go_meet
       case rel => exact ⟨_, (true), (by first | rfl | (simp; done) | (simp [*]; done)), H', ⟨by first | omega | exact Nat.le_refl _⟩, ⟨by (with_reducible repeat (first | refine blk_drewN ?_ _ | refine blk_drew ?_ | refine blk_alloc ?_ _)); exact BK358.out⟩, ⟨(q4_ HB.out GE358.out)⟩⟩
      ·rw [if_neg c18] at H
       have c18b0 : decide (a0_4 < 0) = false := decide_eq_false c18
       clear c18
       have H' := Aside0.mk H
       clear H
       have hcz22_0 : w3.cell? ⟨gb358, 0, none⟩ = some (.int .i64 a0_0) := (blk_cell BK358.out 0).trans rfl
       have hcz22_1 : w3.cell? ⟨gb358, 1, none⟩ = some (.string a0_1) := (blk_cell BK358.out 1).trans rfl
       have hcz22_2 : w3.cell? ⟨gb358, 2, none⟩ = some (.slice A0_2 l0_2.length c0_2) := (blk_cell BK358.out 2).trans rfl
       have hcz22_3 : w3.cell? ⟨gb358, 3, none⟩ = some (.slice A0_3 l0_3.length c0_3) := (blk_cell BK358.out 3).trans rfl
       have hcz22_4 : w3.cell? ⟨gb358, 4, none⟩ = some (.int .i64 a0_4) := (blk_cell BK358.out 4).trans rfl
       have hfz22_0 := blk_frozen BK358.out 0
       have hfz22_1 := blk_frozen BK358.out 1
       have hfz22_2 := blk_frozen BK358.out 2
       have hfz22_3 := blk_frozen BK358.out 3
       have hfz22_4 := blk_frozen BK358.out 4
       go_wp2_with (first | (go_at_call 23; (with_reducible refine (caravanref5_bare.calls a0_0 a0_1 _ _ l0_2 _ _ l0_3 a0_4 true _ ?side1 ?side2 ?side3 ?side4 A4.out).mono ?_); (case side1 => exact qC_ ((Kd.C_below HR0_2.out HB.out))); (case side2 => exact HC0_2.out); (case side3 => exact qC_ ((Kd.C_below HR0_3.out HB.out))); (case side4 => exact HC0_3.out); rintro e w23 ⟨rfl, hb⟩; have n0_ := Aside0.mk (blk_below (g := gb358) (o := .cells #[.int .i64 a0_0, .string a0_1, .slice A0_2 l0_2.length c0_2, .slice A0_3 l0_3.length c0_3, .int .i64 a0_4] 26 (0, 0)) (q3_ BK358.out) hb); have n1_ := Aside0.mk (below_step (q4_ HB.out GE358.out) hb); clear BK358; clear HB; have BK358 := n0_; have HB := n1_; clear n0_ n1_; (try clear hb); (try clear hb2); (try clear hk); (try clear hi); have hcz24_0 : w23.cell? ⟨gb358, 0, none⟩ = some (.int .i64 a0_0) := (blk_cell BK358.out 0).trans rfl; have hcz24_1 : w23.cell? ⟨gb358, 1, none⟩ = some (.string a0_1) := (blk_cell BK358.out 1).trans rfl; have hcz24_2 : w23.cell? ⟨gb358, 2, none⟩ = some (.slice A0_2 l0_2.length c0_2) := (blk_cell BK358.out 2).trans rfl; have hcz24_3 : w23.cell? ⟨gb358, 3, none⟩ = some (.slice A0_3 l0_3.length c0_3) := (blk_cell BK358.out 3).trans rfl; have hcz24_4 : w23.cell? ⟨gb358, 4, none⟩ = some (.int .i64 a0_4) := (blk_cell BK358.out 4).trans rfl; have hfz24_0 := blk_frozen BK358.out 0; have hfz24_1 := blk_frozen BK358.out 1; have hfz24_2 := blk_frozen BK358.out 2; have hfz24_3 := blk_frozen BK358.out 3; have hfz24_4 := blk_frozen BK358.out 4))
       repeat (go_quiet (first | (go_at_call 23; (with_reducible refine (caravanref5_bare.calls a0_0 a0_1 _ _ l0_2 _ _ l0_3 a0_4 true _ ?side1 ?side2 ?side3 ?side4 A4.out).mono ?_); (case side1 => exact qC_ ((Kd.C_below HR0_2.out HB.out))); (case side2 => exact HC0_2.out); (case side3 => exact qC_ ((Kd.C_below HR0_3.out HB.out))); (case side4 => exact HC0_3.out); rintro e w23 ⟨rfl, hb⟩; have n0_ := Aside0.mk (blk_below (g := gb358) (o := .cells #[.int .i64 a0_0, .string a0_1, .slice A0_2 l0_2.length c0_2, .slice A0_3 l0_3.length c0_3, .int .i64 a0_4] 26 (0, 0)) (q3_ BK358.out) hb); have n1_ := Aside0.mk (below_step (q4_ HB.out GE358.out) hb); clear BK358; clear HB; have BK358 := n0_; have HB := n1_; clear n0_ n1_; (try clear hb); (try clear hb2); (try clear hk); (try clear hi); have hcz24_0 : w23.cell? ⟨gb358, 0, none⟩ = some (.int .i64 a0_0) := (blk_cell BK358.out 0).trans rfl; have hcz24_1 : w23.cell? ⟨gb358, 1, none⟩ = some (.string a0_1) := (blk_cell BK358.out 1).trans rfl; have hcz24_2 : w23.cell? ⟨gb358, 2, none⟩ = some (.slice A0_2 l0_2.length c0_2) := (blk_cell BK358.out 2).trans rfl; have hcz24_3 : w23.cell? ⟨gb358, 3, none⟩ = some (.slice A0_3 l0_3.length c0_3) := (blk_cell BK358.out 3).trans rfl; have hcz24_4 : w23.cell? ⟨gb358, 4, none⟩ = some (.int .i64 a0_4) := (blk_cell BK358.out 4).trans rfl; have hfz24_0 := blk_frozen BK358.out 0; have hfz24_1 := blk_frozen BK358.out 1; have hfz24_2 := blk_frozen BK358.out 2; have hfz24_3 := blk_frozen BK358.out 3; have hfz24_4 := blk_frozen BK358.out 4)); try go_wp2_with (first | (go_at_call 23; (with_reducible refine (caravanref5_bare.calls a0_0 a0_1 _ _ l0_2 _ _ l0_3 a0_4 true _ ?side1 ?side2 ?side3 ?side4 A4.out).mono ?_); (case side1 => exact qC_ ((Kd.C_below HR0_2.out HB.out))); (case side2 => exact HC0_2.out); (case side3 => exact qC_ ((Kd.C_below HR0_3.out HB.out))); (case side4 => exact HC0_3.out); rintro e w23 ⟨rfl, hb⟩; have n0_ := Aside0.mk (blk_below (g := gb358) (o := .cells #[.int .i64 a0_0, .string a0_1, .slice A0_2 l0_2.length c0_2, .slice A0_3 l0_3.length c0_3, .int .i64 a0_4] 26 (0, 0)) (q3_ BK358.out) hb); have n1_ := Aside0.mk (below_step (q4_ HB.out GE358.out) hb); clear BK358; clear HB; have BK358 := n0_; have HB := n1_; clear n0_ n1_; (try clear hb); (try clear hb2); (try clear hk); (try clear hi); have hcz24_0 : w23.cell? ⟨gb358, 0, none⟩ = some (.int .i64 a0_0) := (blk_cell BK358.out 0).trans rfl; have hcz24_1 : w23.cell? ⟨gb358, 1, none⟩ = some (.string a0_1) := (blk_cell BK358.out 1).trans rfl; have hcz24_2 : w23.cell? ⟨gb358, 2, none⟩ = some (.slice A0_2 l0_2.length c0_2) := (blk_cell BK358.out 2).trans rfl; have hcz24_3 : w23.cell? ⟨gb358, 3, none⟩ = some (.slice A0_3 l0_3.length c0_3) := (blk_cell BK358.out 3).trans rfl; have hcz24_4 : w23.cell? ⟨gb358, 4, none⟩ = some (.int .i64 a0_4) := (blk_cell BK358.out 4).trans rfl; have hfz24_0 := blk_frozen BK358.out 0; have hfz24_1 := blk_frozen BK358.out 1; have hfz24_2 := blk_frozen BK358.out 2; have hfz24_3 := blk_frozen BK358.out 3; have hfz24_4 := blk_frozen BK358.out 4)))
       go_meet
       case rel => exact ⟨_, (decide (a0_4 > 9007199254740992)), (by first | rfl | (simp; done) | (simp [*]; done)), H', ⟨by first | omega | exact Nat.le_refl _⟩, ⟨by (with_reducible repeat (first | refine blk_drewN ?_ _ | refine blk_drew ?_ | refine blk_alloc ?_ _)); exact BK358.out⟩, ⟨(q4_ HB.out GE358.out)⟩⟩
  ·replace c5 := Bool.eq_false_iff.mpr c5
   subst c5
   have H1 : (caravanref5_MayItem.j0 k true a0_0 a0_1 l0_2 l0_3 a0_4) = some r := by rw [if_neg (show ¬ (false = true) by decide)] at H; exact H
   clear H
   have H := H1
   clear H1
   have H' := Aside0.mk H
   clear H
   have hcz25_0 : w3.cell? ⟨gb358, 0, none⟩ = some (.int .i64 a0_0) := (blk_cell BK358.out 0).trans rfl
   have hcz25_1 : w3.cell? ⟨gb358, 1, none⟩ = some (.string a0_1) := (blk_cell BK358.out 1).trans rfl
   have hcz25_2 : w3.cell? ⟨gb358, 2, none⟩ = some (.slice A0_2 l0_2.length c0_2) := (blk_cell BK358.out 2).trans rfl
   have hcz25_3 : w3.cell? ⟨gb358, 3, none⟩ = some (.slice A0_3 l0_3.length c0_3) := (blk_cell BK358.out 3).trans rfl
   have hcz25_4 : w3.cell? ⟨gb358, 4, none⟩ = some (.int .i64 a0_4) := (blk_cell BK358.out 4).trans rfl
   have hfz25_0 := blk_frozen BK358.out 0
   have hfz25_1 := blk_frozen BK358.out 1
   have hfz25_2 := blk_frozen BK358.out 2
   have hfz25_3 := blk_frozen BK358.out 3
   have hfz25_4 := blk_frozen BK358.out 4
   go_wp2_with (first | (go_at_call 23; (with_reducible refine (caravanref5_bare.calls a0_0 a0_1 _ _ l0_2 _ _ l0_3 a0_4 false _ ?side1 ?side2 ?side3 ?side4 A4.out).mono ?_); (case side1 => exact qC_ ((Kd.C_below HR0_2.out HB.out))); (case side2 => exact HC0_2.out); (case side3 => exact qC_ ((Kd.C_below HR0_3.out HB.out))); (case side4 => exact HC0_3.out); rintro e w26 ⟨rfl, hb⟩; have n0_ := Aside0.mk (blk_below (g := gb358) (o := .cells #[.int .i64 a0_0, .string a0_1, .slice A0_2 l0_2.length c0_2, .slice A0_3 l0_3.length c0_3, .int .i64 a0_4] 26 (0, 0)) (q3_ BK358.out) hb); have n1_ := Aside0.mk (below_step (q4_ HB.out GE358.out) hb); clear BK358; clear HB; have BK358 := n0_; have HB := n1_; clear n0_ n1_; (try clear hb); (try clear hb2); (try clear hk); (try clear hi)))
   repeat (go_quiet (first | (go_at_call 23; (with_reducible refine (caravanref5_bare.calls a0_0 a0_1 _ _ l0_2 _ _ l0_3 a0_4 false _ ?side1 ?side2 ?side3 ?side4 A4.out).mono ?_); (case side1 => exact qC_ ((Kd.C_below HR0_2.out HB.out))); (case side2 => exact HC0_2.out); (case side3 => exact qC_ ((Kd.C_below HR0_3.out HB.out))); (case side4 => exact HC0_3.out); rintro e w26 ⟨rfl, hb⟩; have n0_ := Aside0.mk (blk_below (g := gb358) (o := .cells #[.int .i64 a0_0, .string a0_1, .slice A0_2 l0_2.length c0_2, .slice A0_3 l0_3.length c0_3, .int .i64 a0_4] 26 (0, 0)) (q3_ BK358.out) hb); have n1_ := Aside0.mk (below_step (q4_ HB.out GE358.out) hb); clear BK358; clear HB; have BK358 := n0_; have HB := n1_; clear n0_ n1_; (try clear hb); (try clear hb2); (try clear hk); (try clear hi))); try go_wp2_with (first | (go_at_call 23; (with_reducible refine (caravanref5_bare.calls a0_0 a0_1 _ _ l0_2 _ _ l0_3 a0_4 false _ ?side1 ?side2 ?side3 ?side4 A4.out).mono ?_); (case side1 => exact qC_ ((Kd.C_below HR0_2.out HB.out))); (case side2 => exact HC0_2.out); (case side3 => exact qC_ ((Kd.C_below HR0_3.out HB.out))); (case side4 => exact HC0_3.out); rintro e w26 ⟨rfl, hb⟩; have n0_ := Aside0.mk (blk_below (g := gb358) (o := .cells #[.int .i64 a0_0, .string a0_1, .slice A0_2 l0_2.length c0_2, .slice A0_3 l0_3.length c0_3, .int .i64 a0_4] 26 (0, 0)) (q3_ BK358.out) hb); have n1_ := Aside0.mk (below_step (q4_ HB.out GE358.out) hb); clear BK358; clear HB; have BK358 := n0_; have HB := n1_; clear n0_ n1_; (try clear hb); (try clear hb2); (try clear hk); (try clear hi))))
   go_meet
   case rel => exact ⟨_, (true), (by first | rfl | (simp; done) | (simp [*]; done)), H', ⟨by first | omega | exact Nat.le_refl _⟩, ⟨by (with_reducible repeat (first | refine blk_drewN ?_ _ | refine blk_drew ?_ | refine blk_alloc ?_ _)); exact BK358.out⟩, ⟨(q4_ HB.out GE358.out)⟩⟩
 case rest =>
  clear HC2
  try clear c1
  try clear p2
  try clear c5
  try clear c6
  try clear c6b0
  try clear c6b1
  try clear c10
  try clear c10b0
  try clear c10b1
  try clear c12
  try clear c14
  try clear c14b0
  try clear c14b1
  try clear c18
  try clear c18b0
  try clear hcz11_0
  try clear hcz11_1
  try clear hcz11_2
  try clear hcz11_3
  try clear hcz11_4
  try clear hcz13_0
  try clear hcz13_1
  try clear hcz13_2
  try clear hcz13_3
  try clear hcz13_4
  try clear hcz15_0
  try clear hcz15_1
  try clear hcz15_2
  try clear hcz15_3
  try clear hcz15_4
  try clear hcz17_0
  try clear hcz17_1
  try clear hcz17_2
  try clear hcz17_3
  try clear hcz17_4
  try clear hcz19_0
  try clear hcz19_1
  try clear hcz19_2
  try clear hcz19_3
  try clear hcz19_4
  try clear hcz21_0
  try clear hcz21_1
  try clear hcz21_2
  try clear hcz21_3
  try clear hcz21_4
  try clear hcz22_0
  try clear hcz22_1
  try clear hcz22_2
  try clear hcz22_3
  try clear hcz22_4
  try clear hcz24_0
  try clear hcz24_1
  try clear hcz24_2
  try clear hcz24_3
  try clear hcz24_4
  try clear hcz25_0
  try clear hcz25_1
  try clear hcz25_2
  try clear hcz25_3
  try clear hcz25_4
  try clear hcz7_0
  try clear hcz7_1
  try clear hcz7_2
  try clear hcz7_3
  try clear hcz7_4
  try clear hcz9_0
  try clear hcz9_1
  try clear hcz9_2
  try clear hcz9_3
  try clear hcz9_4
  try clear hfz11_0
  try clear hfz11_1
  try clear hfz11_2
  try clear hfz11_3
  try clear hfz11_4
  try clear hfz13_0
  try clear hfz13_1
  try clear hfz13_2
  try clear hfz13_3
  try clear hfz13_4
  try clear hfz15_0
  try clear hfz15_1
  try clear hfz15_2
  try clear hfz15_3
  try clear hfz15_4
  try clear hfz17_0
  try clear hfz17_1
  try clear hfz17_2
  try clear hfz17_3
  try clear hfz17_4
  try clear hfz19_0
  try clear hfz19_1
  try clear hfz19_2
  try clear hfz19_3
  try clear hfz19_4
  try clear hfz21_0
  try clear hfz21_1
  try clear hfz21_2
  try clear hfz21_3
  try clear hfz21_4
  try clear hfz22_0
  try clear hfz22_1
  try clear hfz22_2
  try clear hfz22_3
  try clear hfz22_4
  try clear hfz24_0
  try clear hfz24_1
  try clear hfz24_2
  try clear hfz24_3
  try clear hfz24_4
  try clear hfz25_0
  try clear hfz25_1
  try clear hfz25_2
  try clear hfz25_3
  try clear hfz25_4
  try clear hfz7_0
  try clear hfz7_1
  try clear hfz7_2
  try clear hfz7_3
  try clear hfz7_4
  try clear hfz9_0
  try clear hfz9_1
  try clear hfz9_2
  try clear hfz9_3
  try clear hfz9_4
  obtain ⟨kq, x35_1, rfl, HA, HJ1, BK358, HB⟩ := hcut
  cases kq with
  | zero => exact absurd HA.out (by simp [caravanref5_MayItem.j0])
  | succ kj1 =>
   have H := HA.out
   clear HA
   simp only [caravanref5_MayItem.j0] at H
   by_cases c27 : x35_1 = true
   ·subst c27
    have H1 : (some false) = some r := by rw [if_pos rfl] at H; exact H
    clear H
    have H := H1
    clear H1
    obtain rfl := Option.some.inj H
    go_wp2
    repeat (go_quiet (fail); try go_wp2)
    go_ret
    exact ⟨by first | rfl | (simp [errW_none, errW_some] <;> rfl) | (simp [*, errW_none, errW_some] <;> rfl), (q4_ HB.out GE358.out)⟩
   ·replace c27 := Bool.eq_false_iff.mpr c27
    subst c27
    have H1 : (caravanref5_MayItem.l0 kj1 0 a0_0 a0_1 l0_2 l0_3 a0_4) = some r := by rw [if_neg (show ¬ (false = true) by decide)] at H; exact H
    clear H
    have H := H1
    clear H1
    have H' := Aside0.mk H
    clear H
    go_wp2
    repeat (go_quiet (fail); try go_wp2)
    go_loopg [3] kj1 (fun kq v3 w' => ∃ (x3_2 : Int), v3 = .int .i64 x3_2 ∧ Aside0 (caravanref5_MayItem.l0 kq x3_2 a0_0 a0_1 l0_2 l0_3 a0_4 = some r) ∧ Aside0 (kq ≤ kj1) ∧ Aside0 (w'.heap[gb358]? = some (.cells #[.int .i64 a0_0, .string a0_1, (.slice A0_2 l0_2.length c0_2), (.slice A0_3 l0_3.length c0_3), .int .i64 a0_4] 26 (0, 0))) ∧ Aside0 (Below w.heap.size w w'))
    case atStart => exact ⟨(0), (by first | rfl | (simp; done) | (simp [*]; done)), H', ⟨Nat.le_refl _⟩, ⟨by (with_reducible repeat (first | refine blk_drewN ?_ _ | refine blk_drew ?_ | refine blk_alloc ?_ _)); exact BK358.out⟩, ⟨(q4_ HB.out GE358.out)⟩⟩
    case round =>
     clear H'
     try clear c1
     try clear c2
     try clear p2
     try clear c5
     try clear c6
     try clear c6b0
     try clear c6b1
     try clear c10
     try clear c10b0
     try clear c10b1
     try clear c12
     try clear c14
     try clear c14b0
     try clear c14b1
     try clear c18
     try clear c18b0
     try clear c27
     try clear hcz11_0
     try clear hcz11_1
     try clear hcz11_2
     try clear hcz11_3
     try clear hcz11_4
     try clear hcz13_0
     try clear hcz13_1
     try clear hcz13_2
     try clear hcz13_3
     try clear hcz13_4
     try clear hcz15_0
     try clear hcz15_1
     try clear hcz15_2
     try clear hcz15_3
     try clear hcz15_4
     try clear hcz17_0
     try clear hcz17_1
     try clear hcz17_2
     try clear hcz17_3
     try clear hcz17_4
     try clear hcz19_0
     try clear hcz19_1
     try clear hcz19_2
     try clear hcz19_3
     try clear hcz19_4
     try clear hcz21_0
     try clear hcz21_1
     try clear hcz21_2
     try clear hcz21_3
     try clear hcz21_4
     try clear hcz22_0
     try clear hcz22_1
     try clear hcz22_2
     try clear hcz22_3
     try clear hcz22_4
     try clear hcz24_0
     try clear hcz24_1
     try clear hcz24_2
     try clear hcz24_3
     try clear hcz24_4
     try clear hcz25_0
     try clear hcz25_1
     try clear hcz25_2
     try clear hcz25_3
     try clear hcz25_4
     try clear hcz7_0
     try clear hcz7_1
     try clear hcz7_2
     try clear hcz7_3
     try clear hcz7_4
     try clear hcz9_0
     try clear hcz9_1
     try clear hcz9_2
     try clear hcz9_3
     try clear hcz9_4
     try clear hfz11_0
     try clear hfz11_1
     try clear hfz11_2
     try clear hfz11_3
     try clear hfz11_4
     try clear hfz13_0
     try clear hfz13_1
     try clear hfz13_2
     try clear hfz13_3
     try clear hfz13_4
     try clear hfz15_0
     try clear hfz15_1
     try clear hfz15_2
     try clear hfz15_3
     try clear hfz15_4
     try clear hfz17_0
     try clear hfz17_1
     try clear hfz17_2
     try clear hfz17_3
     try clear hfz17_4
     try clear hfz19_0
     try clear hfz19_1
     try clear hfz19_2
     try clear hfz19_3
     try clear hfz19_4
     try clear hfz21_0
     try clear hfz21_1
     try clear hfz21_2
     try clear hfz21_3
     try clear hfz21_4
     try clear hfz22_0
     try clear hfz22_1
     try clear hfz22_2
     try clear hfz22_3
     try clear hfz22_4
     try clear hfz24_0
     try clear hfz24_1
     try clear hfz24_2
     try clear hfz24_3
     try clear hfz24_4
     try clear hfz25_0
     try clear hfz25_1
     try clear hfz25_2
     try clear hfz25_3
     try clear hfz25_4
     try clear hfz7_0
     try clear hfz7_1
     try clear hfz7_2
     try clear hfz7_3
     try clear hfz7_4
     try clear hfz9_0
     try clear hfz9_1
     try clear hfz9_2
     try clear hfz9_3
     try clear hfz9_4
     try clear p2
     obtain ⟨x3_2, rfl, HA, HK2, BK358, HB⟩ := hrel
     cases gk with
     | zero => exact absurd HA.out (by simp [caravanref5_MayItem.l0])
     | succ k2 =>
      have H := HA.out
      clear HA
      simp only [caravanref5_MayItem.l0] at H
      by_cases c28 : x3_2 < (l0_2.length : Int)
      ·rw [if_pos c28] at H
       have c28b0 : decide (x3_2 < (l0_2.length : Int)) = true := decide_eq_true c28
       clear c28
       by_cases c29 : 0 ≤ x3_2
       ·rw [if_pos c29] at H
        have c29b0 : decide (0 ≤ x3_2) = true := decide_eq_true c29
        clear c29
        by_cases c30 : (((rd_T29 l0_2 x3_2).f0).size : Int) > 300
        ·rw [if_pos c30] at H
         have c30b0 : decide (300 < (((rd_T29 l0_2 x3_2).f0).size : Int)) = true := decide_eq_true c30
         have c30b1 : decide (300 < ((rd_T29 l0_2 x3_2).f0).size) = true := decide_eq_true (by omega)
         clear c30
         obtain rfl := Option.some.inj H
         have hcz31_0 : wr.cell? ⟨gb358, 0, none⟩ = some (.int .i64 a0_0) := (blk_cell BK358.out 0).trans rfl
         have hcz31_1 : wr.cell? ⟨gb358, 1, none⟩ = some (.string a0_1) := (blk_cell BK358.out 1).trans rfl
         have hcz31_2 : wr.cell? ⟨gb358, 2, none⟩ = some (.slice A0_2 l0_2.length c0_2) := (blk_cell BK358.out 2).trans rfl
         have hcz31_3 : wr.cell? ⟨gb358, 3, none⟩ = some (.slice A0_3 l0_3.length c0_3) := (blk_cell BK358.out 3).trans rfl
         have hcz31_4 : wr.cell? ⟨gb358, 4, none⟩ = some (.int .i64 a0_4) := (blk_cell BK358.out 4).trans rfl
         have hfz31_0 := blk_frozen BK358.out 0
         have hfz31_1 := blk_frozen BK358.out 1
         have hfz31_2 := blk_frozen BK358.out 2
         have hfz31_3 := blk_frozen BK358.out 3
         have hfz31_4 := blk_frozen BK358.out 4
         have p360 : 0 ≤ (x3_2 : Int) := of_decide_eq_true (by first | (with_reducible assumption) | assumption)
         have q360 : x3_2 < (l0_2.length : Int) := of_decide_eq_true (by first | (with_reducible assumption) | assumption)
         obtain ⟨ad360, e360, hx360_0, hx360_1⟩ := at_T29 HR0_2.out x3_2 p360 q360
         cases e360
         replace hx360_0 := (HB.out.cell (World.block_lt_of_cell? w _ hx360_0)).trans hx360_0
         replace hx360_1 := (HB.out.cell (World.block_lt_of_cell? w _ hx360_1)).trans hx360_1
         replace p360 := eq_true p360
         replace q360 := eq_true q360
         go_wp2
         repeat (go_quiet (fail); try go_wp2)
         go_ret
         exact ⟨by first | rfl | (simp [errW_none, errW_some] <;> rfl) | (simp [*, errW_none, errW_some] <;> rfl), (q4_ HB.out GE358.out)⟩
        ·rw [if_neg c30] at H
         have c30b0 : decide (300 < (((rd_T29 l0_2 x3_2).f0).size : Int)) = false := decide_eq_false c30
         have c30b1 : decide (300 < ((rd_T29 l0_2 x3_2).f0).size) = false := decide_eq_false (by omega)
         clear c30
         by_cases c32 : (((rd_T29 l0_2 x3_2).f1).size : Int) > 300
         ·rw [if_pos c32] at H
          have c32b0 : decide (300 < (((rd_T29 l0_2 x3_2).f1).size : Int)) = true := decide_eq_true c32
          have c32b1 : decide (300 < ((rd_T29 l0_2 x3_2).f1).size) = true := decide_eq_true (by omega)
          clear c32
          obtain rfl := Option.some.inj H
          have hcz33_0 : wr.cell? ⟨gb358, 0, none⟩ = some (.int .i64 a0_0) := (blk_cell BK358.out 0).trans rfl
          have hcz33_1 : wr.cell? ⟨gb358, 1, none⟩ = some (.string a0_1) := (blk_cell BK358.out 1).trans rfl
          have hcz33_2 : wr.cell? ⟨gb358, 2, none⟩ = some (.slice A0_2 l0_2.length c0_2) := (blk_cell BK358.out 2).trans rfl
          have hcz33_3 : wr.cell? ⟨gb358, 3, none⟩ = some (.slice A0_3 l0_3.length c0_3) := (blk_cell BK358.out 3).trans rfl
          have hcz33_4 : wr.cell? ⟨gb358, 4, none⟩ = some (.int .i64 a0_4) := (blk_cell BK358.out 4).trans rfl
          have hfz33_0 := blk_frozen BK358.out 0
          have hfz33_1 := blk_frozen BK358.out 1
          have hfz33_2 := blk_frozen BK358.out 2
          have hfz33_3 := blk_frozen BK358.out 3
          have hfz33_4 := blk_frozen BK358.out 4
          have p360 : 0 ≤ (x3_2 : Int) := of_decide_eq_true (by first | (with_reducible assumption) | assumption)
          have q360 : x3_2 < (l0_2.length : Int) := of_decide_eq_true (by first | (with_reducible assumption) | assumption)
          obtain ⟨ad360, e360, hx360_0, hx360_1⟩ := at_T29 HR0_2.out x3_2 p360 q360
          cases e360
          replace hx360_0 := (HB.out.cell (World.block_lt_of_cell? w _ hx360_0)).trans hx360_0
          replace hx360_1 := (HB.out.cell (World.block_lt_of_cell? w _ hx360_1)).trans hx360_1
          replace p360 := eq_true p360
          replace q360 := eq_true q360
          have p361 : 0 ≤ (x3_2 : Int) := of_decide_eq_true (by first | (with_reducible assumption) | assumption)
          have q361 : x3_2 < (l0_2.length : Int) := of_decide_eq_true (by first | (with_reducible assumption) | assumption)
          obtain ⟨ad361, e361, hx361_0, hx361_1⟩ := at_T29 HR0_2.out x3_2 p361 q361
          obtain rfl : ad360 = ad361 := (by injection e361)
          replace hx361_0 := (HB.out.cell (World.block_lt_of_cell? w _ hx361_0)).trans hx361_0
          replace hx361_1 := (HB.out.cell (World.block_lt_of_cell? w _ hx361_1)).trans hx361_1
          replace p361 := eq_true p361
          replace q361 := eq_true q361
          go_wp2
          repeat (go_quiet (fail); try go_wp2)
          go_ret
          exact ⟨by first | rfl | (simp [errW_none, errW_some] <;> rfl) | (simp [*, errW_none, errW_some] <;> rfl), (q4_ HB.out GE358.out)⟩
         ·rw [if_neg c32] at H
          have c32b0 : decide (300 < (((rd_T29 l0_2 x3_2).f1).size : Int)) = false := decide_eq_false c32
          have c32b1 : decide (300 < ((rd_T29 l0_2 x3_2).f1).size) = false := decide_eq_false (by omega)
          clear c32
          by_cases c34 : x3_2 > 0
          ·rw [if_pos c34] at H
           have c34b0 : decide (0 < x3_2) = true := decide_eq_true c34
           clear c34
           obtain ⟨ji35, hji35⟩ : ∃ j_ : Int, (wrap64 (x3_2 - 1)) = j_ := ⟨_, rfl⟩
           replace H : (if 0 ≤ (ji35) then (if (ji35) < (l0_2.length : Int) then (if ((Op.bytesLess (((rd_T29 l0_2 (ji35)).f0).toList) (((rd_T29 l0_2 x3_2).f0).toList)) = true) then (caravanref5_MayItem.l0 k2 (wrap64 (x3_2 + 1)) a0_0 a0_1 l0_2 l0_3 a0_4) else (some false)) else (none)) else (none)) = some r := by first | (rw [hji35] at H; exact H) | (simp only [hji35] at H ⊢; exact H)
           have hji35w : (IntKind.i64.wrap (x3_2 - 1)) = ji35 := (i64_w _).trans hji35
           by_cases c36 : 0 ≤ (ji35)
           ·rw [if_pos c36] at H
            have c36b0 : decide (0 ≤ (ji35)) = true := decide_eq_true c36
            clear c36
            by_cases c37 : (ji35) < (l0_2.length : Int)
            ·rw [if_pos c37] at H
             have c37b0 : decide ((ji35) < (l0_2.length : Int)) = true := decide_eq_true c37
             clear c37
             by_cases c38 : ((Op.bytesLess (((rd_T29 l0_2 (ji35)).f0).toList) (((rd_T29 l0_2 x3_2).f0).toList)) = true)
             ·rw [if_pos c38] at H
              have c38b0 : (Op.bytesLess (((rd_T29 l0_2 (ji35)).f0).toList) (((rd_T29 l0_2 x3_2).f0).toList)) = true := c38
              clear c38
              have H' := Aside0.mk H
              clear H
              have hcz39_0 : wr.cell? ⟨gb358, 0, none⟩ = some (.int .i64 a0_0) := (blk_cell BK358.out 0).trans rfl
              have hcz39_1 : wr.cell? ⟨gb358, 1, none⟩ = some (.string a0_1) := (blk_cell BK358.out 1).trans rfl
              have hcz39_2 : wr.cell? ⟨gb358, 2, none⟩ = some (.slice A0_2 l0_2.length c0_2) := (blk_cell BK358.out 2).trans rfl
              have hcz39_3 : wr.cell? ⟨gb358, 3, none⟩ = some (.slice A0_3 l0_3.length c0_3) := (blk_cell BK358.out 3).trans rfl
              have hcz39_4 : wr.cell? ⟨gb358, 4, none⟩ = some (.int .i64 a0_4) := (blk_cell BK358.out 4).trans rfl
              have hfz39_0 := blk_frozen BK358.out 0
              have hfz39_1 := blk_frozen BK358.out 1
              have hfz39_2 := blk_frozen BK358.out 2
              have hfz39_3 := blk_frozen BK358.out 3
              have hfz39_4 := blk_frozen BK358.out 4
              have p360 : 0 ≤ (x3_2 : Int) := of_decide_eq_true (by first | (with_reducible assumption) | assumption)
              have q360 : x3_2 < (l0_2.length : Int) := of_decide_eq_true (by first | (with_reducible assumption) | assumption)
              obtain ⟨ad360, e360, hx360_0, hx360_1⟩ := at_T29 HR0_2.out x3_2 p360 q360
              cases e360
              replace hx360_0 := (HB.out.cell (World.block_lt_of_cell? w _ hx360_0)).trans hx360_0
              replace hx360_1 := (HB.out.cell (World.block_lt_of_cell? w _ hx360_1)).trans hx360_1
              replace p360 := eq_true p360
              replace q360 := eq_true q360
              have p361 : 0 ≤ (x3_2 : Int) := of_decide_eq_true (by first | (with_reducible assumption) | assumption)
              have q361 : x3_2 < (l0_2.length : Int) := of_decide_eq_true (by first | (with_reducible assumption) | assumption)
              obtain ⟨ad361, e361, hx361_0, hx361_1⟩ := at_T29 HR0_2.out x3_2 p361 q361
              obtain rfl : ad360 = ad361 := (by injection e361)
              replace hx361_0 := (HB.out.cell (World.block_lt_of_cell? w _ hx361_0)).trans hx361_0
              replace hx361_1 := (HB.out.cell (World.block_lt_of_cell? w _ hx361_1)).trans hx361_1
              replace p361 := eq_true p361
              replace q361 := eq_true q361
              have p362 : 0 ≤ ((ji35) : Int) := of_decide_eq_true (by first | (with_reducible assumption) | assumption)
              have q362 : (ji35) < (l0_2.length : Int) := of_decide_eq_true (by first | (with_reducible assumption) | assumption)
              obtain ⟨ad362, e362, hx362_0, hx362_1⟩ := at_T29 HR0_2.out (ji35) p362 q362
              obtain rfl : ad360 = ad362 := (by injection e362)
              replace hx362_0 := (HB.out.cell (World.block_lt_of_cell? w _ hx362_0)).trans hx362_0
              replace hx362_1 := (HB.out.cell (World.block_lt_of_cell? w _ hx362_1)).trans hx362_1
              replace p362 := eq_true p362
              replace q362 := eq_true q362
              have p363 : 0 ≤ (x3_2 : Int) := of_decide_eq_true (by first | (with_reducible assumption) | assumption)
              have q363 : x3_2 < (l0_2.length : Int) := of_decide_eq_true (by first | (with_reducible assumption) | assumption)
              obtain ⟨ad363, e363, hx363_0, hx363_1⟩ := at_T29 HR0_2.out x3_2 p363 q363
              obtain rfl : ad360 = ad363 := (by injection e363)
              replace hx363_0 := (HB.out.cell (World.block_lt_of_cell? w _ hx363_0)).trans hx363_0
              replace hx363_1 := (HB.out.cell (World.block_lt_of_cell? w _ hx363_1)).trans hx363_1
              replace p363 := eq_true p363
              replace q363 := eq_true q363
              go_wp2
              repeat (go_quiet (fail); try go_wp2)
              go_roundg k2
              case measure => have := HJ1.out; have := HK2.out; omega
              case rel => exact ⟨(wrap64 (x3_2 + 1)), (by first | rfl | (simp; done) | (simp [*]; done)), H', ⟨by have := HJ1.out; have := HK2.out; omega⟩, ⟨by (with_reducible repeat (first | refine blk_drewN ?_ _ | refine blk_drew ?_ | refine blk_alloc ?_ _)); exact BK358.out⟩, ⟨(q4_ HB.out GE358.out)⟩⟩
             ·rw [if_neg c38] at H
              have c38b0 : (Op.bytesLess (((rd_T29 l0_2 (ji35)).f0).toList) (((rd_T29 l0_2 x3_2).f0).toList)) = false := by simpa using c38
              clear c38
              obtain rfl := Option.some.inj H
              have hcz40_0 : wr.cell? ⟨gb358, 0, none⟩ = some (.int .i64 a0_0) := (blk_cell BK358.out 0).trans rfl
              have hcz40_1 : wr.cell? ⟨gb358, 1, none⟩ = some (.string a0_1) := (blk_cell BK358.out 1).trans rfl
              have hcz40_2 : wr.cell? ⟨gb358, 2, none⟩ = some (.slice A0_2 l0_2.length c0_2) := (blk_cell BK358.out 2).trans rfl
              have hcz40_3 : wr.cell? ⟨gb358, 3, none⟩ = some (.slice A0_3 l0_3.length c0_3) := (blk_cell BK358.out 3).trans rfl
              have hcz40_4 : wr.cell? ⟨gb358, 4, none⟩ = some (.int .i64 a0_4) := (blk_cell BK358.out 4).trans rfl
              have hfz40_0 := blk_frozen BK358.out 0
              have hfz40_1 := blk_frozen BK358.out 1
              have hfz40_2 := blk_frozen BK358.out 2
              have hfz40_3 := blk_frozen BK358.out 3
              have hfz40_4 := blk_frozen BK358.out 4
              have p360 : 0 ≤ (x3_2 : Int) := of_decide_eq_true (by first | (with_reducible assumption) | assumption)
              have q360 : x3_2 < (l0_2.length : Int) := of_decide_eq_true (by first | (with_reducible assumption) | assumption)
              obtain ⟨ad360, e360, hx360_0, hx360_1⟩ := at_T29 HR0_2.out x3_2 p360 q360
              cases e360
              replace hx360_0 := (HB.out.cell (World.block_lt_of_cell? w _ hx360_0)).trans hx360_0
              replace hx360_1 := (HB.out.cell (World.block_lt_of_cell? w _ hx360_1)).trans hx360_1
              replace p360 := eq_true p360
              replace q360 := eq_true q360
              have p361 : 0 ≤ (x3_2 : Int) := of_decide_eq_true (by first | (with_reducible assumption) | assumption)
              have q361 : x3_2 < (l0_2.length : Int) := of_decide_eq_true (by first | (with_reducible assumption) | assumption)
              obtain ⟨ad361, e361, hx361_0, hx361_1⟩ := at_T29 HR0_2.out x3_2 p361 q361
              obtain rfl : ad360 = ad361 := (by injection e361)
              replace hx361_0 := (HB.out.cell (World.block_lt_of_cell? w _ hx361_0)).trans hx361_0
              replace hx361_1 := (HB.out.cell (World.block_lt_of_cell? w _ hx361_1)).trans hx361_1
              replace p361 := eq_true p361
              replace q361 := eq_true q361
              have p362 : 0 ≤ ((ji35) : Int) := of_decide_eq_true (by first | (with_reducible assumption) | assumption)
              have q362 : (ji35) < (l0_2.length : Int) := of_decide_eq_true (by first | (with_reducible assumption) | assumption)
              obtain ⟨ad362, e362, hx362_0, hx362_1⟩ := at_T29 HR0_2.out (ji35) p362 q362
              obtain rfl : ad360 = ad362 := (by injection e362)
              replace hx362_0 := (HB.out.cell (World.block_lt_of_cell? w _ hx362_0)).trans hx362_0
              replace hx362_1 := (HB.out.cell (World.block_lt_of_cell? w _ hx362_1)).trans hx362_1
              replace p362 := eq_true p362
              replace q362 := eq_true q362
              have p363 : 0 ≤ (x3_2 : Int) := of_decide_eq_true (by first | (with_reducible assumption) | assumption)
              have q363 : x3_2 < (l0_2.length : Int) := of_decide_eq_true (by first | (with_reducible assumption) | assumption)
              obtain ⟨ad363, e363, hx363_0, hx363_1⟩ := at_T29 HR0_2.out x3_2 p363 q363
              obtain rfl : ad360 = ad363 := (by injection e363)
              replace hx363_0 := (HB.out.cell (World.block_lt_of_cell? w _ hx363_0)).trans hx363_0
              replace hx363_1 := (HB.out.cell (World.block_lt_of_cell? w _ hx363_1)).trans hx363_1
              replace p363 := eq_true p363
              replace q363 := eq_true q363
              go_wp2
              repeat (go_quiet (fail); try go_wp2)
              go_ret
              exact ⟨by first | rfl | (simp [errW_none, errW_some] <;> rfl) | (simp only [← hji35]; first | rfl | (simp [errW_none, errW_some] <;> rfl)) | (simp [*, errW_none, errW_some] <;> rfl), (q4_ HB.out GE358.out)⟩
            ·rw [if_neg c37] at H
             exact absurd H (by simp)
           ·rw [if_neg c36] at H
            exact absurd H (by simp)
          ·rw [if_neg c34] at H
           have c34b0 : decide (0 < x3_2) = false := decide_eq_false c34
           clear c34
           have H' := Aside0.mk H
           clear H
           have hcz41_0 : wr.cell? ⟨gb358, 0, none⟩ = some (.int .i64 a0_0) := (blk_cell BK358.out 0).trans rfl
           have hcz41_1 : wr.cell? ⟨gb358, 1, none⟩ = some (.string a0_1) := (blk_cell BK358.out 1).trans rfl
           have hcz41_2 : wr.cell? ⟨gb358, 2, none⟩ = some (.slice A0_2 l0_2.length c0_2) := (blk_cell BK358.out 2).trans rfl
           have hcz41_3 : wr.cell? ⟨gb358, 3, none⟩ = some (.slice A0_3 l0_3.length c0_3) := (blk_cell BK358.out 3).trans rfl
           have hcz41_4 : wr.cell? ⟨gb358, 4, none⟩ = some (.int .i64 a0_4) := (blk_cell BK358.out 4).trans rfl
           have hfz41_0 := blk_frozen BK358.out 0
           have hfz41_1 := blk_frozen BK358.out 1
           have hfz41_2 := blk_frozen BK358.out 2
           have hfz41_3 := blk_frozen BK358.out 3
           have hfz41_4 := blk_frozen BK358.out 4
           have p360 : 0 ≤ (x3_2 : Int) := of_decide_eq_true (by first | (with_reducible assumption) | assumption)
           have q360 : x3_2 < (l0_2.length : Int) := of_decide_eq_true (by first | (with_reducible assumption) | assumption)
           obtain ⟨ad360, e360, hx360_0, hx360_1⟩ := at_T29 HR0_2.out x3_2 p360 q360
           cases e360
           replace hx360_0 := (HB.out.cell (World.block_lt_of_cell? w _ hx360_0)).trans hx360_0
           replace hx360_1 := (HB.out.cell (World.block_lt_of_cell? w _ hx360_1)).trans hx360_1
           replace p360 := eq_true p360
           replace q360 := eq_true q360
           have p361 : 0 ≤ (x3_2 : Int) := of_decide_eq_true (by first | (with_reducible assumption) | assumption)
           have q361 : x3_2 < (l0_2.length : Int) := of_decide_eq_true (by first | (with_reducible assumption) | assumption)
           obtain ⟨ad361, e361, hx361_0, hx361_1⟩ := at_T29 HR0_2.out x3_2 p361 q361
           obtain rfl : ad360 = ad361 := (by injection e361)
           replace hx361_0 := (HB.out.cell (World.block_lt_of_cell? w _ hx361_0)).trans hx361_0
           replace hx361_1 := (HB.out.cell (World.block_lt_of_cell? w _ hx361_1)).trans hx361_1
           replace p361 := eq_true p361
           replace q361 := eq_true q361
           go_wp2
           repeat (go_quiet (fail); try go_wp2)
           go_roundg k2
           case measure => have := HJ1.out; have := HK2.out; omega
           case rel => exact ⟨(wrap64 (x3_2 + 1)), (by first | rfl | (simp; done) | (simp [*]; done)), H', ⟨by have := HJ1.out; have := HK2.out; omega⟩, ⟨by (with_reducible repeat (first | refine blk_drewN ?_ _ | refine blk_drew ?_ | refine blk_alloc ?_ _)); exact BK358.out⟩, ⟨(q4_ HB.out GE358.out)⟩⟩
       ·rw [if_neg c29] at H
        exact absurd H (by simp)
      ·rw [if_neg c28] at H
       have c28b0 : decide (x3_2 < (l0_2.length : Int)) = false := decide_eq_false c28
       clear c28
       have H' := Aside0.mk H
       clear H
       have hcz42_0 : wr.cell? ⟨gb358, 0, none⟩ = some (.int .i64 a0_0) := (blk_cell BK358.out 0).trans rfl
       have hcz42_1 : wr.cell? ⟨gb358, 1, none⟩ = some (.string a0_1) := (blk_cell BK358.out 1).trans rfl
       have hcz42_2 : wr.cell? ⟨gb358, 2, none⟩ = some (.slice A0_2 l0_2.length c0_2) := (blk_cell BK358.out 2).trans rfl
       have hcz42_3 : wr.cell? ⟨gb358, 3, none⟩ = some (.slice A0_3 l0_3.length c0_3) := (blk_cell BK358.out 3).trans rfl
       have hcz42_4 : wr.cell? ⟨gb358, 4, none⟩ = some (.int .i64 a0_4) := (blk_cell BK358.out 4).trans rfl
       have hfz42_0 := blk_frozen BK358.out 0
       have hfz42_1 := blk_frozen BK358.out 1
       have hfz42_2 := blk_frozen BK358.out 2
       have hfz42_3 := blk_frozen BK358.out 3
       have hfz42_4 := blk_frozen BK358.out 4
       go_wp2
       repeat (go_quiet (fail); try go_wp2)
       go_loopg [4] k2 (fun kq v4 w' => ∃ (x4_3 : Int), v4 = .int .i64 x4_3 ∧ Aside0 (caravanref5_MayItem.l1 kq x4_3 a0_0 a0_1 l0_2 l0_3 a0_4 = some r) ∧ Aside0 (kq ≤ k2) ∧ Aside0 (w'.heap[gb358]? = some (.cells #[.int .i64 a0_0, .string a0_1, (.slice A0_2 l0_2.length c0_2), (.slice A0_3 l0_3.length c0_3), .int .i64 a0_4] 26 (0, 0))) ∧ Aside0 (Below w.heap.size w w'))
       case atStart => exact ⟨(0), (by first | rfl | (simp; done) | (simp [*]; done)), H', ⟨Nat.le_refl _⟩, ⟨by (with_reducible repeat (first | refine blk_drewN ?_ _ | refine blk_drew ?_ | refine blk_alloc ?_ _)); exact BK358.out⟩, ⟨(q4_ HB.out GE358.out)⟩⟩
       case round =>
        clear H'
        try clear c1
        try clear c2
        try clear p2
        try clear c3
        try clear p3
        try clear q3
        try clear hx3
        try clear c5
        try clear c6
        try clear c6b0
        try clear c6b1
        try clear p6
        try clear c10
        try clear c10b0
        try clear c10b1
        try clear c12
        try clear c14
        try clear c14b0
        try clear c14b1
        try clear c18
        try clear c18b0
        try clear c27
        try clear c28
        try clear c28b0
        try clear c29
        try clear c29b0
        try clear c30
        try clear c30b0
        try clear c30b1
        try clear c32
        try clear c32b0
        try clear c32b1
        try clear c34
        try clear c34b0
        try clear c36
        try clear c36b0
        try clear p36
        try clear q36
        try clear hx36
        try clear c37
        try clear c37b0
        try clear c38
        try clear c38b0
        try clear hcz11_0
        try clear hcz11_1
        try clear hcz11_2
        try clear hcz11_3
        try clear hcz11_4
        try clear hcz13_0
        try clear hcz13_1
        try clear hcz13_2
        try clear hcz13_3
        try clear hcz13_4
        try clear hcz15_0
        try clear hcz15_1
        try clear hcz15_2
        try clear hcz15_3
        try clear hcz15_4
        try clear hcz17_0
        try clear hcz17_1
        try clear hcz17_2
        try clear hcz17_3
        try clear hcz17_4
        try clear hcz19_0
        try clear hcz19_1
        try clear hcz19_2
        try clear hcz19_3
        try clear hcz19_4
        try clear hcz21_0
        try clear hcz21_1
        try clear hcz21_2
        try clear hcz21_3
        try clear hcz21_4
        try clear hcz22_0
        try clear hcz22_1
        try clear hcz22_2
        try clear hcz22_3
        try clear hcz22_4
        try clear hcz24_0
        try clear hcz24_1
        try clear hcz24_2
        try clear hcz24_3
        try clear hcz24_4
        try clear hcz25_0
        try clear hcz25_1
        try clear hcz25_2
        try clear hcz25_3
        try clear hcz25_4
        try clear hcz31_0
        try clear hcz31_1
        try clear hcz31_2
        try clear hcz31_3
        try clear hcz31_4
        try clear hcz33_0
        try clear hcz33_1
        try clear hcz33_2
        try clear hcz33_3
        try clear hcz33_4
        try clear hcz39_0
        try clear hcz39_1
        try clear hcz39_2
        try clear hcz39_3
        try clear hcz39_4
        try clear hcz40_0
        try clear hcz40_1
        try clear hcz40_2
        try clear hcz40_3
        try clear hcz40_4
        try clear hcz41_0
        try clear hcz41_1
        try clear hcz41_2
        try clear hcz41_3
        try clear hcz41_4
        try clear hcz42_0
        try clear hcz42_1
        try clear hcz42_2
        try clear hcz42_3
        try clear hcz42_4
        try clear hcz7_0
        try clear hcz7_1
        try clear hcz7_2
        try clear hcz7_3
        try clear hcz7_4
        try clear hcz9_0
        try clear hcz9_1
        try clear hcz9_2
        try clear hcz9_3
        try clear hcz9_4
        try clear hfz11_0
        try clear hfz11_1
        try clear hfz11_2
        try clear hfz11_3
        try clear hfz11_4
        try clear hfz13_0
        try clear hfz13_1
        try clear hfz13_2
        try clear hfz13_3
        try clear hfz13_4
        try clear hfz15_0
        try clear hfz15_1
        try clear hfz15_2
        try clear hfz15_3
        try clear hfz15_4
        try clear hfz17_0
        try clear hfz17_1
        try clear hfz17_2
        try clear hfz17_3
        try clear hfz17_4
        try clear hfz19_0
        try clear hfz19_1
        try clear hfz19_2
        try clear hfz19_3
        try clear hfz19_4
        try clear hfz21_0
        try clear hfz21_1
        try clear hfz21_2
        try clear hfz21_3
        try clear hfz21_4
        try clear hfz22_0
        try clear hfz22_1
        try clear hfz22_2
        try clear hfz22_3
        try clear hfz22_4
        try clear hfz24_0
        try clear hfz24_1
        try clear hfz24_2
        try clear hfz24_3
        try clear hfz24_4
        try clear hfz25_0
        try clear hfz25_1
        try clear hfz25_2
        try clear hfz25_3
        try clear hfz25_4
        try clear hfz31_0
        try clear hfz31_1
        try clear hfz31_2
        try clear hfz31_3
        try clear hfz31_4
        try clear hfz33_0
        try clear hfz33_1
        try clear hfz33_2
        try clear hfz33_3
        try clear hfz33_4
        try clear hfz39_0
        try clear hfz39_1
        try clear hfz39_2
        try clear hfz39_3
        try clear hfz39_4
        try clear hfz40_0
        try clear hfz40_1
        try clear hfz40_2
        try clear hfz40_3
        try clear hfz40_4
        try clear hfz41_0
        try clear hfz41_1
        try clear hfz41_2
        try clear hfz41_3
        try clear hfz41_4
        try clear hfz42_0
        try clear hfz42_1
        try clear hfz42_2
        try clear hfz42_3
        try clear hfz42_4
        try clear hfz7_0
        try clear hfz7_1
        try clear hfz7_2
        try clear hfz7_3
        try clear hfz7_4
        try clear hfz9_0
        try clear hfz9_1
        try clear hfz9_2
        try clear hfz9_3
        try clear hfz9_4
        try clear hx360_0
        try clear hx360_1
        try clear hx361_0
        try clear hx361_1
        try clear hx362_0
        try clear hx362_1
        try clear hx363_0
        try clear hx363_1
        try clear p2
        try clear p360
        try clear p361
        try clear p362
        try clear p363
        try clear q360
        try clear q361
        try clear q362
        try clear q363
        obtain ⟨x4_3, rfl, HA, HK3, BK358, HB⟩ := hrel
        cases gk with
        | zero => exact absurd HA.out (by simp [caravanref5_MayItem.l1])
        | succ k3 =>
         have H := HA.out
         clear HA
         simp only [caravanref5_MayItem.l1] at H
         by_cases c43 : x4_3 < (l0_3.length : Int)
         ·rw [if_pos c43] at H
          have c43b0 : decide (x4_3 < (l0_3.length : Int)) = true := decide_eq_true c43
          clear c43
          by_cases c44 : 0 ≤ x4_3
          ·rw [if_pos c44] at H
           have c44b0 : decide (0 ≤ x4_3) = true := decide_eq_true c44
           clear c44
           by_cases c45 : ((rdOf ByteArray.empty l0_3 x4_3).size : Int) > 300
           ·rw [if_pos c45] at H
            have c45b0 : decide (300 < ((rdOf ByteArray.empty l0_3 x4_3).size : Int)) = true := decide_eq_true c45
            have c45b1 : decide (300 < (rdOf ByteArray.empty l0_3 x4_3).size) = true := decide_eq_true (by omega)
            clear c45
            obtain rfl := Option.some.inj H
            have hcz46_0 : wr.cell? ⟨gb358, 0, none⟩ = some (.int .i64 a0_0) := (blk_cell BK358.out 0).trans rfl
            have hcz46_1 : wr.cell? ⟨gb358, 1, none⟩ = some (.string a0_1) := (blk_cell BK358.out 1).trans rfl
            have hcz46_2 : wr.cell? ⟨gb358, 2, none⟩ = some (.slice A0_2 l0_2.length c0_2) := (blk_cell BK358.out 2).trans rfl
            have hcz46_3 : wr.cell? ⟨gb358, 3, none⟩ = some (.slice A0_3 l0_3.length c0_3) := (blk_cell BK358.out 3).trans rfl
            have hcz46_4 : wr.cell? ⟨gb358, 4, none⟩ = some (.int .i64 a0_4) := (blk_cell BK358.out 4).trans rfl
            have hfz46_0 := blk_frozen BK358.out 0
            have hfz46_1 := blk_frozen BK358.out 1
            have hfz46_2 := blk_frozen BK358.out 2
            have hfz46_3 := blk_frozen BK358.out 3
            have hfz46_4 := blk_frozen BK358.out 4
            have p364 : 0 ≤ (x4_3 : Int) := of_decide_eq_true (by first | (with_reducible assumption) | assumption)
            have q364 : x4_3 < (l0_3.length : Int) := of_decide_eq_true (by first | (with_reducible assumption) | assumption)
            obtain ⟨ad364, e364, hx364_0⟩ := Kd.at_string HR0_3.out x4_3 p364 q364
            cases e364
            replace hx364_0 := (HB.out.cell (World.block_lt_of_cell? w _ hx364_0)).trans hx364_0
            replace p364 := eq_true p364
            replace q364 := eq_true q364
            go_wp2
            repeat (go_quiet (fail); try go_wp2)
            go_ret
            exact ⟨by first | rfl | (simp [errW_none, errW_some] <;> rfl) | (simp [*, errW_none, errW_some] <;> rfl), (q4_ HB.out GE358.out)⟩
           ·rw [if_neg c45] at H
            have c45b0 : decide (300 < ((rdOf ByteArray.empty l0_3 x4_3).size : Int)) = false := decide_eq_false c45
            have c45b1 : decide (300 < (rdOf ByteArray.empty l0_3 x4_3).size) = false := decide_eq_false (by omega)
            clear c45
            by_cases c47 : a0_0 = 4
            ·rw [if_pos c47] at H
             have c47b0 : (a0_0 == 4) = true := beq_iff_eq.mpr c47
             have c47b1 : (a0_0 != 4) = false := bne_eq_false_iff_eq.mpr c47
             clear c47
             by_cases c48 : x4_3 > 0
             ·rw [if_pos c48] at H
              have c48b0 : decide (0 < x4_3) = true := decide_eq_true c48
              clear c48
              obtain ⟨ji49, hji49⟩ : ∃ j_ : Int, (wrap64 (x4_3 - 1)) = j_ := ⟨_, rfl⟩
              replace H : (if 0 ≤ (ji49) then (if (ji49) < (l0_3.length : Int) then (if ((Op.bytesLess ((rdOf ByteArray.empty l0_3 (ji49)).toList) ((rdOf ByteArray.empty l0_3 x4_3).toList)) = true) then (caravanref5_MayItem.l1 k3 (wrap64 (x4_3 + 1)) a0_0 a0_1 l0_2 l0_3 a0_4) else (some false)) else (none)) else (none)) = some r := by first | (rw [hji49] at H; exact H) | (simp only [hji49] at H ⊢; exact H)
              have hji49w : (IntKind.i64.wrap (x4_3 - 1)) = ji49 := (i64_w _).trans hji49
              by_cases c50 : 0 ≤ (ji49)
              ·rw [if_pos c50] at H
               have c50b0 : decide (0 ≤ (ji49)) = true := decide_eq_true c50
               clear c50
               by_cases c51 : (ji49) < (l0_3.length : Int)
               ·rw [if_pos c51] at H
                have c51b0 : decide ((ji49) < (l0_3.length : Int)) = true := decide_eq_true c51
                clear c51
                by_cases c52 : ((Op.bytesLess ((rdOf ByteArray.empty l0_3 (ji49)).toList) ((rdOf ByteArray.empty l0_3 x4_3).toList)) = true)
                ·rw [if_pos c52] at H
                 have c52b0 : (Op.bytesLess ((rdOf ByteArray.empty l0_3 (ji49)).toList) ((rdOf ByteArray.empty l0_3 x4_3).toList)) = true := c52
                 clear c52
                 have H' := Aside0.mk H
                 clear H
                 have hcz53_0 : wr.cell? ⟨gb358, 0, none⟩ = some (.int .i64 a0_0) := (blk_cell BK358.out 0).trans rfl
                 have hcz53_1 : wr.cell? ⟨gb358, 1, none⟩ = some (.string a0_1) := (blk_cell BK358.out 1).trans rfl
                 have hcz53_2 : wr.cell? ⟨gb358, 2, none⟩ = some (.slice A0_2 l0_2.length c0_2) := (blk_cell BK358.out 2).trans rfl
                 have hcz53_3 : wr.cell? ⟨gb358, 3, none⟩ = some (.slice A0_3 l0_3.length c0_3) := (blk_cell BK358.out 3).trans rfl
                 have hcz53_4 : wr.cell? ⟨gb358, 4, none⟩ = some (.int .i64 a0_4) := (blk_cell BK358.out 4).trans rfl
                 have hfz53_0 := blk_frozen BK358.out 0
                 have hfz53_1 := blk_frozen BK358.out 1
                 have hfz53_2 := blk_frozen BK358.out 2
                 have hfz53_3 := blk_frozen BK358.out 3
                 have hfz53_4 := blk_frozen BK358.out 4
                 have p364 : 0 ≤ (x4_3 : Int) := of_decide_eq_true (by first | (with_reducible assumption) | assumption)
                 have q364 : x4_3 < (l0_3.length : Int) := of_decide_eq_true (by first | (with_reducible assumption) | assumption)
                 obtain ⟨ad364, e364, hx364_0⟩ := Kd.at_string HR0_3.out x4_3 p364 q364
                 cases e364
                 replace hx364_0 := (HB.out.cell (World.block_lt_of_cell? w _ hx364_0)).trans hx364_0
                 replace p364 := eq_true p364
                 replace q364 := eq_true q364
                 have p365 : 0 ≤ ((ji49) : Int) := of_decide_eq_true (by first | (with_reducible assumption) | assumption)
                 have q365 : (ji49) < (l0_3.length : Int) := of_decide_eq_true (by first | (with_reducible assumption) | assumption)
                 obtain ⟨ad365, e365, hx365_0⟩ := Kd.at_string HR0_3.out (ji49) p365 q365
                 obtain rfl : ad364 = ad365 := (by injection e365)
                 replace hx365_0 := (HB.out.cell (World.block_lt_of_cell? w _ hx365_0)).trans hx365_0
                 replace p365 := eq_true p365
                 replace q365 := eq_true q365
                 have p366 : 0 ≤ (x4_3 : Int) := of_decide_eq_true (by first | (with_reducible assumption) | assumption)
                 have q366 : x4_3 < (l0_3.length : Int) := of_decide_eq_true (by first | (with_reducible assumption) | assumption)
                 obtain ⟨ad366, e366, hx366_0⟩ := Kd.at_string HR0_3.out x4_3 p366 q366
                 obtain rfl : ad364 = ad366 := (by injection e366)
                 replace hx366_0 := (HB.out.cell (World.block_lt_of_cell? w _ hx366_0)).trans hx366_0
                 replace p366 := eq_true p366
                 replace q366 := eq_true q366
                 go_wp2
                 repeat (go_quiet (fail); try go_wp2)
                 go_roundg k3
                 case measure => have := HJ1.out; have := HK2.out; have := HK3.out; omega
                 case rel => exact ⟨(wrap64 (x4_3 + 1)), (by first | rfl | (simp; done) | (simp [*]; done)), H', ⟨by have := HJ1.out; have := HK2.out; have := HK3.out; omega⟩, ⟨by (with_reducible repeat (first | refine blk_drewN ?_ _ | refine blk_drew ?_ | refine blk_alloc ?_ _)); exact BK358.out⟩, ⟨(q4_ HB.out GE358.out)⟩⟩
                ·rw [if_neg c52] at H
                 have c52b0 : (Op.bytesLess ((rdOf ByteArray.empty l0_3 (ji49)).toList) ((rdOf ByteArray.empty l0_3 x4_3).toList)) = false := by simpa using c52
                 clear c52
                 obtain rfl := Option.some.inj H
                 have hcz54_0 : wr.cell? ⟨gb358, 0, none⟩ = some (.int .i64 a0_0) := (blk_cell BK358.out 0).trans rfl
                 have hcz54_1 : wr.cell? ⟨gb358, 1, none⟩ = some (.string a0_1) := (blk_cell BK358.out 1).trans rfl
                 have hcz54_2 : wr.cell? ⟨gb358, 2, none⟩ = some (.slice A0_2 l0_2.length c0_2) := (blk_cell BK358.out 2).trans rfl
                 have hcz54_3 : wr.cell? ⟨gb358, 3, none⟩ = some (.slice A0_3 l0_3.length c0_3) := (blk_cell BK358.out 3).trans rfl
                 have hcz54_4 : wr.cell? ⟨gb358, 4, none⟩ = some (.int .i64 a0_4) := (blk_cell BK358.out 4).trans rfl
                 have hfz54_0 := blk_frozen BK358.out 0
                 have hfz54_1 := blk_frozen BK358.out 1
                 have hfz54_2 := blk_frozen BK358.out 2
                 have hfz54_3 := blk_frozen BK358.out 3
                 have hfz54_4 := blk_frozen BK358.out 4
                 have p364 : 0 ≤ (x4_3 : Int) := of_decide_eq_true (by first | (with_reducible assumption) | assumption)
                 have q364 : x4_3 < (l0_3.length : Int) := of_decide_eq_true (by first | (with_reducible assumption) | assumption)
                 obtain ⟨ad364, e364, hx364_0⟩ := Kd.at_string HR0_3.out x4_3 p364 q364
                 cases e364
                 replace hx364_0 := (HB.out.cell (World.block_lt_of_cell? w _ hx364_0)).trans hx364_0
                 replace p364 := eq_true p364
                 replace q364 := eq_true q364
                 have p365 : 0 ≤ ((ji49) : Int) := of_decide_eq_true (by first | (with_reducible assumption) | assumption)
                 have q365 : (ji49) < (l0_3.length : Int) := of_decide_eq_true (by first | (with_reducible assumption) | assumption)
                 obtain ⟨ad365, e365, hx365_0⟩ := Kd.at_string HR0_3.out (ji49) p365 q365
                 obtain rfl : ad364 = ad365 := (by injection e365)
                 replace hx365_0 := (HB.out.cell (World.block_lt_of_cell? w _ hx365_0)).trans hx365_0
                 replace p365 := eq_true p365
                 replace q365 := eq_true q365
                 have p366 : 0 ≤ (x4_3 : Int) := of_decide_eq_true (by first | (with_reducible assumption) | assumption)
                 have q366 : x4_3 < (l0_3.length : Int) := of_decide_eq_true (by first | (with_reducible assumption) | assumption)
                 obtain ⟨ad366, e366, hx366_0⟩ := Kd.at_string HR0_3.out x4_3 p366 q366
                 obtain rfl : ad364 = ad366 := (by injection e366)
                 replace hx366_0 := (HB.out.cell (World.block_lt_of_cell? w _ hx366_0)).trans hx366_0
                 replace p366 := eq_true p366
                 replace q366 := eq_true q366
                 go_wp2
                 repeat (go_quiet (fail); try go_wp2)
                 go_ret
                 exact ⟨by first | rfl | (simp [errW_none, errW_some] <;> rfl) | (simp only [← hji49]; first | rfl | (simp [errW_none, errW_some] <;> rfl)) | (simp [*, errW_none, errW_some] <;> rfl), (q4_ HB.out GE358.out)⟩
               ·rw [if_neg c51] at H
                exact absurd H (by simp)
              ·rw [if_neg c50] at H
               exact absurd H (by simp)
             ·rw [if_neg c48] at H
              have c48b0 : decide (0 < x4_3) = false := decide_eq_false c48
              clear c48
              have H' := Aside0.mk H
              clear H
              have hcz55_0 : wr.cell? ⟨gb358, 0, none⟩ = some (.int .i64 a0_0) := (blk_cell BK358.out 0).trans rfl
              have hcz55_1 : wr.cell? ⟨gb358, 1, none⟩ = some (.string a0_1) := (blk_cell BK358.out 1).trans rfl
              have hcz55_2 : wr.cell? ⟨gb358, 2, none⟩ = some (.slice A0_2 l0_2.length c0_2) := (blk_cell BK358.out 2).trans rfl
              have hcz55_3 : wr.cell? ⟨gb358, 3, none⟩ = some (.slice A0_3 l0_3.length c0_3) := (blk_cell BK358.out 3).trans rfl
              have hcz55_4 : wr.cell? ⟨gb358, 4, none⟩ = some (.int .i64 a0_4) := (blk_cell BK358.out 4).trans rfl
              have hfz55_0 := blk_frozen BK358.out 0
              have hfz55_1 := blk_frozen BK358.out 1
              have hfz55_2 := blk_frozen BK358.out 2
              have hfz55_3 := blk_frozen BK358.out 3
              have hfz55_4 := blk_frozen BK358.out 4
              have p364 : 0 ≤ (x4_3 : Int) := of_decide_eq_true (by first | (with_reducible assumption) | assumption)
              have q364 : x4_3 < (l0_3.length : Int) := of_decide_eq_true (by first | (with_reducible assumption) | assumption)
              obtain ⟨ad364, e364, hx364_0⟩ := Kd.at_string HR0_3.out x4_3 p364 q364
              cases e364
              replace hx364_0 := (HB.out.cell (World.block_lt_of_cell? w _ hx364_0)).trans hx364_0
              replace p364 := eq_true p364
              replace q364 := eq_true q364
              go_wp2
              repeat (go_quiet (fail); try go_wp2)
              go_roundg k3
              case measure => have := HJ1.out; have := HK2.out; have := HK3.out; omega
              case rel => exact ⟨(wrap64 (x4_3 + 1)), (by first | rfl | (simp; done) | (simp [*]; done)), H', ⟨by have := HJ1.out; have := HK2.out; have := HK3.out; omega⟩, ⟨by (with_reducible repeat (first | refine blk_drewN ?_ _ | refine blk_drew ?_ | refine blk_alloc ?_ _)); exact BK358.out⟩, ⟨(q4_ HB.out GE358.out)⟩⟩
            ·rw [if_neg c47] at H
             have c47b0 : (a0_0 == 4) = false := beq_eq_false_iff_ne.mpr c47
             have c47b1 : (a0_0 != 4) = true := bne_iff_ne.mpr c47
             have H' := Aside0.mk H
             clear H
             have hcz56_0 : wr.cell? ⟨gb358, 0, none⟩ = some (.int .i64 a0_0) := (blk_cell BK358.out 0).trans rfl
             have hcz56_1 : wr.cell? ⟨gb358, 1, none⟩ = some (.string a0_1) := (blk_cell BK358.out 1).trans rfl
             have hcz56_2 : wr.cell? ⟨gb358, 2, none⟩ = some (.slice A0_2 l0_2.length c0_2) := (blk_cell BK358.out 2).trans rfl
             have hcz56_3 : wr.cell? ⟨gb358, 3, none⟩ = some (.slice A0_3 l0_3.length c0_3) := (blk_cell BK358.out 3).trans rfl
             have hcz56_4 : wr.cell? ⟨gb358, 4, none⟩ = some (.int .i64 a0_4) := (blk_cell BK358.out 4).trans rfl
             have hfz56_0 := blk_frozen BK358.out 0
             have hfz56_1 := blk_frozen BK358.out 1
             have hfz56_2 := blk_frozen BK358.out 2
             have hfz56_3 := blk_frozen BK358.out 3
             have hfz56_4 := blk_frozen BK358.out 4
             have p364 : 0 ≤ (x4_3 : Int) := of_decide_eq_true (by first | (with_reducible assumption) | assumption)
             have q364 : x4_3 < (l0_3.length : Int) := of_decide_eq_true (by first | (with_reducible assumption) | assumption)
             obtain ⟨ad364, e364, hx364_0⟩ := Kd.at_string HR0_3.out x4_3 p364 q364
             cases e364
             replace hx364_0 := (HB.out.cell (World.block_lt_of_cell? w _ hx364_0)).trans hx364_0
             replace p364 := eq_true p364
             replace q364 := eq_true q364
             go_wp2
             repeat (go_quiet (fail); try go_wp2)
             go_roundg k3
             case measure => have := HJ1.out; have := HK2.out; have := HK3.out; omega
             case rel => exact ⟨(wrap64 (x4_3 + 1)), (by first | rfl | (simp; done) | (simp [*]; done)), H', ⟨by have := HJ1.out; have := HK2.out; have := HK3.out; omega⟩, ⟨by (with_reducible repeat (first | refine blk_drewN ?_ _ | refine blk_drew ?_ | refine blk_alloc ?_ _)); exact BK358.out⟩, ⟨(q4_ HB.out GE358.out)⟩⟩
          ·rw [if_neg c44] at H
           exact absurd H (by simp)
         ·rw [if_neg c43] at H
          have c43b0 : decide (x4_3 < (l0_3.length : Int)) = false := decide_eq_false c43
          clear c43
          obtain rfl := Option.some.inj H
          have hcz57_0 : wr.cell? ⟨gb358, 0, none⟩ = some (.int .i64 a0_0) := (blk_cell BK358.out 0).trans rfl
          have hcz57_1 : wr.cell? ⟨gb358, 1, none⟩ = some (.string a0_1) := (blk_cell BK358.out 1).trans rfl
          have hcz57_2 : wr.cell? ⟨gb358, 2, none⟩ = some (.slice A0_2 l0_2.length c0_2) := (blk_cell BK358.out 2).trans rfl
          have hcz57_3 : wr.cell? ⟨gb358, 3, none⟩ = some (.slice A0_3 l0_3.length c0_3) := (blk_cell BK358.out 3).trans rfl
          have hcz57_4 : wr.cell? ⟨gb358, 4, none⟩ = some (.int .i64 a0_4) := (blk_cell BK358.out 4).trans rfl
          have hfz57_0 := blk_frozen BK358.out 0
          have hfz57_1 := blk_frozen BK358.out 1
          have hfz57_2 := blk_frozen BK358.out 2
          have hfz57_3 := blk_frozen BK358.out 3
          have hfz57_4 := blk_frozen BK358.out 4
          go_wp2
          repeat (go_quiet (fail); try go_wp2)
          go_ret
          exact ⟨by first | rfl | (simp [errW_none, errW_some] <;> rfl) | (simp [*, errW_none, errW_some] <;> rfl), (q4_ HB.out GE358.out)⟩

end Go.Proofs.Ytbmimcpllpgcaaa.G
