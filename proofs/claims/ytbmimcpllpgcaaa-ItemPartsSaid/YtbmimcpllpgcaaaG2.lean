/- What functions of the translation come to, and their calls' proofs; by a program of mine over the kit's print, with contracts given by hand beside. Conditions: where a plain function tells none, nothing is said. -/
import Derived.Test.YtbmimcpllpgcaaaG0
import Derived.Test.YtbmimcpllpgcaaaG1
import Derived.Test.YtbmimcpllpgcaaaGClF
import Derived.Test.YtbmimcpllpgcaaaGClS
namespace Go.Proofs.Ytbmimcpllpgcaaa.G
open Go.RowKit Go.Proofs.YtbmimcpllpgcaaaW.PrintWords Go.Proofs.YtbmimcpllpgcaaaW.PrintLast Go.Proofs.YtbmimcpllpgcaaaW.PrintMore
attribute [local go_sem] max2_int min2_int max_two min_two max_three min_three max_four min_four   -- for this text's walks alone
set_option linter.unusedVariables false
set_option linter.unusedSimpArgs false

attribute [local go_sem high] eqA29
/-! ### item_Type: function 15 -/
def item_Type.f (a0_0 : Int) (a0_1 : ByteArray) (l0_2 : List (S29)) (l0_3 : List ByteArray) (a0_4 : Int) : Option (ByteArray) := if a0_0 = 1 then (some (⟨#[115, 116, 114, 105, 110, 103]⟩ : ByteArray)) else (if a0_0 = 2 then (some (⟨#[104, 97, 115, 104]⟩ : ByteArray)) else (if a0_0 = 3 then (some (⟨#[108, 105, 115, 116]⟩ : ByteArray)) else (if a0_0 = 4 then (some (⟨#[115, 101, 116]⟩ : ByteArray)) else (some (⟨#[110, 111, 110, 101]⟩ : ByteArray)))))
set_option maxHeartbeats 8000000 in
set_option maxRecDepth 100000 in
theorem item_Type.calls (a0_0 : Int) (a0_1 : ByteArray) (A0_2 : Option Addr) (c0_2 : Nat) (l0_2 : List (S29)) (A0_3 : Option Addr) (c0_3 : Nat) (l0_3 : List ByteArray) (a0_4 : Int) (r : ByteArray) (w : World) (hr0_2 : Kd.C k29 w A0_2 l0_2.length l0_2) (hc0_2 : l0_2.length ≤ c0_2) (hr0_3 : Kd.C Kd.string w A0_3 l0_3.length l0_3) (hc0_3 : l0_3.length ≤ c0_3) (h : item_Type.f a0_0 a0_1 l0_2 l0_3 a0_4 = some r) :
 Calls Try.prog 15 #[.agg #[.int .i64 a0_0, .string a0_1, .slice A0_2 l0_2.length c0_2, .slice A0_3 l0_3.length c0_3, .int .i64 a0_4]] w fun e w' => e = .returned (.string r) ∧ Below w.heap.size w w' := by
 have hu26 := Try.underlying26
 have HR0_2 := Aside0.mk hr0_2
 have HC0_2 := Aside0.mk hc0_2
 clear hr0_2 hc0_2
 have HR0_3 := Aside0.mk hr0_3
 have HC0_3 := Aside0.mk hc0_3
 clear hr0_3 hc0_3
 have HB := Aside0.mk (Below.refl w.heap.size w)
 have H : (if a0_0 = 1 then (some (⟨#[115, 116, 114, 105, 110, 103]⟩ : ByteArray)) else (if a0_0 = 2 then (some (⟨#[104, 97, 115, 104]⟩ : ByteArray)) else (if a0_0 = 3 then (some (⟨#[108, 105, 115, 116]⟩ : ByteArray)) else (if a0_0 = 4 then (some (⟨#[115, 101, 116]⟩ : ByteArray)) else (some (⟨#[110, 111, 110, 101]⟩ : ByteArray)))))) = some r := h
 clear h
 by_cases c2 : a0_0 = 1
 ·rw [if_pos c2] at H
  have c2b0 : (a0_0 == 1) = true := beq_iff_eq.mpr c2
  have c2b1 : (a0_0 != 1) = false := bne_eq_false_iff_eq.mpr c2
  clear c2
  obtain rfl := Option.some.inj H
  go_enter Try.func15, Try.ntmps15
  go_wp2_with (first | ((with_reducible refine gate_dst (N := 1) rfl ?_); refine box_event ?hg (N := 1) ?hd (cs := #[.int .i64 a0_0, .string a0_1, .slice A0_2 l0_2.length c0_2, .slice A0_3 l0_3.length c0_3, .int .i64 a0_4]) (t := 26) ?hr ?_; (case hd => rfl); (case hg => rfl); (case hr => first | (go_simp; done) | (go_simp; rfl)); intro gb101 hg w3 hbox hb; have n0_ := Aside0.mk (below_step (qdb35_ HB.out) hb); have n1_ := Aside0.mk (hbox); have n2_ := Aside0.mk ((by rw [hg]; exact (below_size (qdb35_ HB.out)) : w.heap.size ≤ gb101)); have n3_ := Aside0.mk ((by rw [hg]; exact (below_size (qdb35_ HB.out)) : w.heap.size ≤ gb101)); clear HB; have HB := n0_; have BK101 := n1_; have GW101 := n2_; have GE101 := n3_; clear n0_ n1_ n2_ n3_; clear hb hbox hg; have hcz4_0 : w3.cell? ⟨gb101, 0, none⟩ = some (.int .i64 a0_0) := (blk_cell BK101.out 0).trans rfl; have hcz4_1 : w3.cell? ⟨gb101, 1, none⟩ = some (.string a0_1) := (blk_cell BK101.out 1).trans rfl; have hcz4_2 : w3.cell? ⟨gb101, 2, none⟩ = some (.slice A0_2 l0_2.length c0_2) := (blk_cell BK101.out 2).trans rfl; have hcz4_3 : w3.cell? ⟨gb101, 3, none⟩ = some (.slice A0_3 l0_3.length c0_3) := (blk_cell BK101.out 3).trans rfl; have hcz4_4 : w3.cell? ⟨gb101, 4, none⟩ = some (.int .i64 a0_4) := (blk_cell BK101.out 4).trans rfl; have hfz4_0 := blk_frozen BK101.out 0; have hfz4_1 := blk_frozen BK101.out 1; have hfz4_2 := blk_frozen BK101.out 2; have hfz4_3 := blk_frozen BK101.out 3; have hfz4_4 := blk_frozen BK101.out 4))
  go_ret
  exact ⟨by first | rfl | (simp [errW_none, errW_some] <;> rfl) | (simp [*, errW_none, errW_some] <;> rfl), (qed14_ HB.out GE101.out)⟩
 ·rw [if_neg c2] at H
  have c2b0 : (a0_0 == 1) = false := beq_eq_false_iff_ne.mpr c2
  have c2b1 : (a0_0 != 1) = true := bne_iff_ne.mpr c2
  by_cases c5 : a0_0 = 2
  ·rw [if_pos c5] at H
   have c5b0 : (a0_0 == 2) = true := beq_iff_eq.mpr c5
   have c5b1 : (a0_0 != 2) = false := bne_eq_false_iff_eq.mpr c5
   clear c5
   obtain rfl := Option.some.inj H
   go_enter Try.func15, Try.ntmps15
   go_wp2_with (first | ((with_reducible refine gate_dst (N := 1) rfl ?_); refine box_event ?hg (N := 1) ?hd (cs := #[.int .i64 a0_0, .string a0_1, .slice A0_2 l0_2.length c0_2, .slice A0_3 l0_3.length c0_3, .int .i64 a0_4]) (t := 26) ?hr ?_; (case hd => rfl); (case hg => rfl); (case hr => first | (go_simp; done) | (go_simp; rfl)); intro gb101 hg w6 hbox hb; have n0_ := Aside0.mk (below_step (qdb35_ HB.out) hb); have n1_ := Aside0.mk (hbox); have n2_ := Aside0.mk ((by rw [hg]; exact (below_size (qdb35_ HB.out)) : w.heap.size ≤ gb101)); have n3_ := Aside0.mk ((by rw [hg]; exact (below_size (qdb35_ HB.out)) : w.heap.size ≤ gb101)); clear HB; have HB := n0_; have BK101 := n1_; have GW101 := n2_; have GE101 := n3_; clear n0_ n1_ n2_ n3_; clear hb hbox hg; have hcz7_0 : w6.cell? ⟨gb101, 0, none⟩ = some (.int .i64 a0_0) := (blk_cell BK101.out 0).trans rfl; have hcz7_1 : w6.cell? ⟨gb101, 1, none⟩ = some (.string a0_1) := (blk_cell BK101.out 1).trans rfl; have hcz7_2 : w6.cell? ⟨gb101, 2, none⟩ = some (.slice A0_2 l0_2.length c0_2) := (blk_cell BK101.out 2).trans rfl; have hcz7_3 : w6.cell? ⟨gb101, 3, none⟩ = some (.slice A0_3 l0_3.length c0_3) := (blk_cell BK101.out 3).trans rfl; have hcz7_4 : w6.cell? ⟨gb101, 4, none⟩ = some (.int .i64 a0_4) := (blk_cell BK101.out 4).trans rfl; have hfz7_0 := blk_frozen BK101.out 0; have hfz7_1 := blk_frozen BK101.out 1; have hfz7_2 := blk_frozen BK101.out 2; have hfz7_3 := blk_frozen BK101.out 3; have hfz7_4 := blk_frozen BK101.out 4))
   go_ret
   exact ⟨by first | rfl | (simp [errW_none, errW_some] <;> rfl) | (simp [*, errW_none, errW_some] <;> rfl), (qed14_ HB.out GE101.out)⟩
  ·rw [if_neg c5] at H
   have c5b0 : (a0_0 == 2) = false := beq_eq_false_iff_ne.mpr c5
   have c5b1 : (a0_0 != 2) = true := bne_iff_ne.mpr c5
   by_cases c8 : a0_0 = 3
   ·rw [if_pos c8] at H
    have c8b0 : (a0_0 == 3) = true := beq_iff_eq.mpr c8
    have c8b1 : (a0_0 != 3) = false := bne_eq_false_iff_eq.mpr c8
    clear c8
    obtain rfl := Option.some.inj H
    go_enter Try.func15, Try.ntmps15
    go_wp2_with (first | ((with_reducible refine gate_dst (N := 1) rfl ?_); refine box_event ?hg (N := 1) ?hd (cs := #[.int .i64 a0_0, .string a0_1, .slice A0_2 l0_2.length c0_2, .slice A0_3 l0_3.length c0_3, .int .i64 a0_4]) (t := 26) ?hr ?_; (case hd => rfl); (case hg => rfl); (case hr => first | (go_simp; done) | (go_simp; rfl)); intro gb101 hg w9 hbox hb; have n0_ := Aside0.mk (below_step (qdb35_ HB.out) hb); have n1_ := Aside0.mk (hbox); have n2_ := Aside0.mk ((by rw [hg]; exact (below_size (qdb35_ HB.out)) : w.heap.size ≤ gb101)); have n3_ := Aside0.mk ((by rw [hg]; exact (below_size (qdb35_ HB.out)) : w.heap.size ≤ gb101)); clear HB; have HB := n0_; have BK101 := n1_; have GW101 := n2_; have GE101 := n3_; clear n0_ n1_ n2_ n3_; clear hb hbox hg; have hcz10_0 : w9.cell? ⟨gb101, 0, none⟩ = some (.int .i64 a0_0) := (blk_cell BK101.out 0).trans rfl; have hcz10_1 : w9.cell? ⟨gb101, 1, none⟩ = some (.string a0_1) := (blk_cell BK101.out 1).trans rfl; have hcz10_2 : w9.cell? ⟨gb101, 2, none⟩ = some (.slice A0_2 l0_2.length c0_2) := (blk_cell BK101.out 2).trans rfl; have hcz10_3 : w9.cell? ⟨gb101, 3, none⟩ = some (.slice A0_3 l0_3.length c0_3) := (blk_cell BK101.out 3).trans rfl; have hcz10_4 : w9.cell? ⟨gb101, 4, none⟩ = some (.int .i64 a0_4) := (blk_cell BK101.out 4).trans rfl; have hfz10_0 := blk_frozen BK101.out 0; have hfz10_1 := blk_frozen BK101.out 1; have hfz10_2 := blk_frozen BK101.out 2; have hfz10_3 := blk_frozen BK101.out 3; have hfz10_4 := blk_frozen BK101.out 4))
    go_ret
    exact ⟨by first | rfl | (simp [errW_none, errW_some] <;> rfl) | (simp [*, errW_none, errW_some] <;> rfl), (qed14_ HB.out GE101.out)⟩
   ·rw [if_neg c8] at H
    have c8b0 : (a0_0 == 3) = false := beq_eq_false_iff_ne.mpr c8
    have c8b1 : (a0_0 != 3) = true := bne_iff_ne.mpr c8
    by_cases c11 : a0_0 = 4
    ·rw [if_pos c11] at H
     have c11b0 : (a0_0 == 4) = true := beq_iff_eq.mpr c11
     have c11b1 : (a0_0 != 4) = false := bne_eq_false_iff_eq.mpr c11
     clear c11
     obtain rfl := Option.some.inj H
     go_enter Try.func15, Try.ntmps15
     go_wp2_with (first | ((with_reducible refine gate_dst (N := 1) rfl ?_); refine box_event ?hg (N := 1) ?hd (cs := #[.int .i64 a0_0, .string a0_1, .slice A0_2 l0_2.length c0_2, .slice A0_3 l0_3.length c0_3, .int .i64 a0_4]) (t := 26) ?hr ?_; (case hd => rfl); (case hg => rfl); (case hr => first | (go_simp; done) | (go_simp; rfl)); intro gb101 hg w12 hbox hb; have n0_ := Aside0.mk (below_step (qdb35_ HB.out) hb); have n1_ := Aside0.mk (hbox); have n2_ := Aside0.mk ((by rw [hg]; exact (below_size (qdb35_ HB.out)) : w.heap.size ≤ gb101)); have n3_ := Aside0.mk ((by rw [hg]; exact (below_size (qdb35_ HB.out)) : w.heap.size ≤ gb101)); clear HB; have HB := n0_; have BK101 := n1_; have GW101 := n2_; have GE101 := n3_; clear n0_ n1_ n2_ n3_; clear hb hbox hg; have hcz13_0 : w12.cell? ⟨gb101, 0, none⟩ = some (.int .i64 a0_0) := (blk_cell BK101.out 0).trans rfl; have hcz13_1 : w12.cell? ⟨gb101, 1, none⟩ = some (.string a0_1) := (blk_cell BK101.out 1).trans rfl; have hcz13_2 : w12.cell? ⟨gb101, 2, none⟩ = some (.slice A0_2 l0_2.length c0_2) := (blk_cell BK101.out 2).trans rfl; have hcz13_3 : w12.cell? ⟨gb101, 3, none⟩ = some (.slice A0_3 l0_3.length c0_3) := (blk_cell BK101.out 3).trans rfl; have hcz13_4 : w12.cell? ⟨gb101, 4, none⟩ = some (.int .i64 a0_4) := (blk_cell BK101.out 4).trans rfl; have hfz13_0 := blk_frozen BK101.out 0; have hfz13_1 := blk_frozen BK101.out 1; have hfz13_2 := blk_frozen BK101.out 2; have hfz13_3 := blk_frozen BK101.out 3; have hfz13_4 := blk_frozen BK101.out 4))
     go_ret
     exact ⟨by first | rfl | (simp [errW_none, errW_some] <;> rfl) | (simp [*, errW_none, errW_some] <;> rfl), (qed14_ HB.out GE101.out)⟩
    ·rw [if_neg c11] at H
     have c11b0 : (a0_0 == 4) = false := beq_eq_false_iff_ne.mpr c11
     have c11b1 : (a0_0 != 4) = true := bne_iff_ne.mpr c11
     obtain rfl := Option.some.inj H
     go_enter Try.func15, Try.ntmps15
     go_wp2_with (first | ((with_reducible refine gate_dst (N := 1) rfl ?_); refine box_event ?hg (N := 1) ?hd (cs := #[.int .i64 a0_0, .string a0_1, .slice A0_2 l0_2.length c0_2, .slice A0_3 l0_3.length c0_3, .int .i64 a0_4]) (t := 26) ?hr ?_; (case hd => rfl); (case hg => rfl); (case hr => first | (go_simp; done) | (go_simp; rfl)); intro gb101 hg w14 hbox hb; have n0_ := Aside0.mk (below_step (qdb35_ HB.out) hb); have n1_ := Aside0.mk (hbox); have n2_ := Aside0.mk ((by rw [hg]; exact (below_size (qdb35_ HB.out)) : w.heap.size ≤ gb101)); have n3_ := Aside0.mk ((by rw [hg]; exact (below_size (qdb35_ HB.out)) : w.heap.size ≤ gb101)); clear HB; have HB := n0_; have BK101 := n1_; have GW101 := n2_; have GE101 := n3_; clear n0_ n1_ n2_ n3_; clear hb hbox hg; have hcz15_0 : w14.cell? ⟨gb101, 0, none⟩ = some (.int .i64 a0_0) := (blk_cell BK101.out 0).trans rfl; have hcz15_1 : w14.cell? ⟨gb101, 1, none⟩ = some (.string a0_1) := (blk_cell BK101.out 1).trans rfl; have hcz15_2 : w14.cell? ⟨gb101, 2, none⟩ = some (.slice A0_2 l0_2.length c0_2) := (blk_cell BK101.out 2).trans rfl; have hcz15_3 : w14.cell? ⟨gb101, 3, none⟩ = some (.slice A0_3 l0_3.length c0_3) := (blk_cell BK101.out 3).trans rfl; have hcz15_4 : w14.cell? ⟨gb101, 4, none⟩ = some (.int .i64 a0_4) := (blk_cell BK101.out 4).trans rfl; have hfz15_0 := blk_frozen BK101.out 0; have hfz15_1 := blk_frozen BK101.out 1; have hfz15_2 := blk_frozen BK101.out 2; have hfz15_3 := blk_frozen BK101.out 3; have hfz15_4 := blk_frozen BK101.out 4))
     go_ret
     exact ⟨by first | rfl | (simp [errW_none, errW_some] <;> rfl) | (simp [*, errW_none, errW_some] <;> rfl), (qed14_ HB.out GE101.out)⟩

/-! ### api_Field_24: function 24 -/
def api_Field_24.l0 : Nat → List (S29) → List (S29) → Int → Int → Option (Bool)
 | 0, _, _, _, _ => none
 | k + 1, x0, x1, x12, x13 => if x13 < x12 then (if 0 ≤ x13 then (if x13 < (x0.length : Int) then (if x13 < (x1.length : Int) then (if (!((((rd_T29 x0 x13).f0).toList) == (((rd_T29 x1 x13).f0).toList)) || (!((((rd_T29 x0 x13).f1).toList) == (((rd_T29 x1 x13).f1).toList)))) = true then (some false) else (api_Field_24.l0 k x0 x1 x12 (wrap64 (x13 + 1)))) else (none)) else (none)) else (none)) else (some true)
def api_Field_24.f (k : Nat) (l0 : List (S29)) (l1 : List (S29)) : Option (Bool) := if (l0.length : Int) = (l1.length : Int) then (api_Field_24.l0 k l0 l1 (l0.length : Int) 0) else (some false)
theorem api_Field_24.mono_l : ∀ k, (∀ y0 y1 y2 y3, LeO (api_Field_24.l0 k y0 y1 y2 y3) (api_Field_24.l0 (k + 1) y0 y1 y2 y3))
 | 0 => fun _ _ _ _ r h => by simp [api_Field_24.l0] at h
 | k + 1 => by
  have ih0 := api_Field_24.mono_l k
  ·intro y0 y1 y2 y3
   unfold api_Field_24.l0
   repeat' first
   | (with_reducible exact ih0 _ _ _ _)
   | (with_reducible exact LeO.refl _)
   | (with_reducible exact LeO.none _)
   | (with_reducible refine LeO.ite ?_ ?_)
   | (with_reducible refine LeO.bind ?_ (fun _ => ?_))
   | exact ih0 _ _ _ _
   | exact LeO.none _
   | refine LeO.ite ?_ ?_
   | refine LeO.bind ?_ (fun _ => ?_)
theorem api_Field_24.mono : ∀ a0 a1 k, LeO (api_Field_24.f k a0 a1) (api_Field_24.f (k + 1) a0 a1) := by
 intro a0 a1 k
 have ih0 := api_Field_24.mono_l k
 unfold api_Field_24.f
 repeat' first
  | (with_reducible exact ih0 _ _ _ _)
  | (with_reducible exact LeO.refl _)
  | (with_reducible exact LeO.none _)
  | (with_reducible refine LeO.ite ?_ ?_)
  | (with_reducible refine LeO.bind ?_ (fun _ => ?_))
  | exact ih0 _ _ _ _
  | exact LeO.none _
  | refine LeO.ite ?_ ?_
  | refine LeO.bind ?_ (fun _ => ?_)
set_option maxHeartbeats 8000000 in
set_option maxRecDepth 100000 in
theorem api_Field_24.calls (k : Nat) (A0 : Option Addr) (c0 : Nat) (l0 : List (S29)) (A1 : Option Addr) (c1 : Nat) (l1 : List (S29)) (r : Bool) (w : World) (hr0 : Kd.C k29 w A0 l0.length l0) (hc0 : l0.length ≤ c0) (hr1 : Kd.C k29 w A1 l1.length l1) (hc1 : l1.length ≤ c1) (h : api_Field_24.f k l0 l1 = some r) :
 Calls Try.prog 24 #[.slice A0 l0.length c0, .slice A1 l1.length c1] w fun e w' => e = .returned (.bool r) ∧ Drawn0 w w' := by
 have hu29 := Try.underlying29
 have HR0 := Aside0.mk hr0
 have HC0 := Aside0.mk hc0
 clear hr0 hc0
 have HR1 := Aside0.mk hr1
 have HC1 := Aside0.mk hc1
 clear hr1 hc1
 have H : (if (l0.length : Int) = (l1.length : Int) then (api_Field_24.l0 k l0 l1 (l0.length : Int) 0) else (some false)) = some r := h
 clear h
 by_cases c3 : (l0.length : Int) = (l1.length : Int)
 ·rw [if_pos c3] at H
  have c3b0 : ((l0.length : Int) == (l1.length : Int)) = true := beq_iff_eq.mpr c3
  have c3b1 : ((l0.length : Int) != (l1.length : Int)) = false := bne_eq_false_iff_eq.mpr c3
  have c3b2 : (l0.length == l1.length) = true := by first | simpa using c3 | (simp at c3 ⊢; omega)
  clear c3
  have H' := Aside0.mk H
  clear H
  go_enter Try.func24, Try.ntmps24
  go_wp2
  repeat (go_quiet (fail); try go_wp2)
  go_loopg [13] k (fun kq v13 w' => ∃ (x13_1 : Int), v13 = .int .i64 x13_1 ∧ Aside0 (api_Field_24.l0 kq l0 l1 (l0.length : Int) x13_1 = some r) ∧ Aside0 (kq ≤ k) ∧ Drawn0 w w')
  case atStart => exact ⟨(0), (by first | rfl | (simp; done) | (simp [*]; done)), H', ⟨Nat.le_refl _⟩, (by repeat (first | exact Drawn0.refl _ | apply Drawn0.step))⟩
  case round =>
   clear H'
   try clear c1
   try clear c2
   try clear p2
   try clear c3
   try clear c3b0
   try clear c3b1
   try clear c3b2
   obtain ⟨x13_1, rfl, HA, HK1, ⟨m1, rfl⟩⟩ := hrel
   cases gk with
   | zero => exact absurd HA.out (by simp [api_Field_24.l0])
   | succ k1 =>
    have H := HA.out
    clear HA
    simp only [api_Field_24.l0] at H
    by_cases c4 : x13_1 < (l0.length : Int)
    ·rw [if_pos c4] at H
     have c4b0 : decide (x13_1 < (l0.length : Int)) = true := decide_eq_true c4
     clear c4
     by_cases c5 : 0 ≤ x13_1
     ·rw [if_pos c5] at H
      have c5b0 : decide (0 ≤ x13_1) = true := decide_eq_true c5
      clear c5
      by_cases c6 : x13_1 < (l0.length : Int)
      ·rw [if_pos c6] at H
       have c6b0 : decide (x13_1 < (l0.length : Int)) = true := decide_eq_true c6
       clear c6
       by_cases c7 : x13_1 < (l1.length : Int)
       ·rw [if_pos c7] at H
        have c7b0 : decide (x13_1 < (l1.length : Int)) = true := decide_eq_true c7
        clear c7
        by_cases c8 : (!((((rd_T29 l0 x13_1).f0).toList) == (((rd_T29 l1 x13_1).f0).toList)) || (!((((rd_T29 l0 x13_1).f1).toList) == (((rd_T29 l1 x13_1).f1).toList)))) = true
        ·rw [if_pos c8] at H
         have c8b0 : (!((((rd_T29 l0 x13_1).f0).toList) == (((rd_T29 l1 x13_1).f0).toList)) || (!((((rd_T29 l0 x13_1).f1).toList) == (((rd_T29 l1 x13_1).f1).toList)))) = true := c8
         clear c8
         obtain rfl := Option.some.inj H
         have p102 : 0 ≤ (x13_1 : Int) := of_decide_eq_true (by first | (with_reducible assumption) | assumption)
         have q102 : x13_1 < (l0.length : Int) := of_decide_eq_true (by first | (with_reducible assumption) | assumption)
         obtain ⟨ad102, e102, hx102_0, hx102_1⟩ := at_T29 HR0.out x13_1 p102 q102
         cases e102
         replace p102 := eq_true p102
         replace q102 := eq_true q102
         have p103 : 0 ≤ (x13_1 : Int) := of_decide_eq_true (by first | (with_reducible assumption) | assumption)
         have q103 : x13_1 < (l1.length : Int) := of_decide_eq_true (by first | (with_reducible assumption) | assumption)
         obtain ⟨ad103, e103, hx103_0, hx103_1⟩ := at_T29 HR1.out x13_1 p103 q103
         cases e103
         replace p103 := eq_true p103
         replace q103 := eq_true q103
         go_wp2
         repeat (go_quiet (fail); try go_wp2)
         go_ret
         exact ⟨by first | rfl | (simp; done) | (simp [*]; done), (by repeat (first | exact Drawn0.refl _ | apply Drawn0.step))⟩
        ·rw [if_neg c8] at H
         have c8b0 : (!((((rd_T29 l0 x13_1).f0).toList) == (((rd_T29 l1 x13_1).f0).toList)) || (!((((rd_T29 l0 x13_1).f1).toList) == (((rd_T29 l1 x13_1).f1).toList)))) = false := by simpa using c8
         clear c8
         have H' := Aside0.mk H
         clear H
         have p102 : 0 ≤ (x13_1 : Int) := of_decide_eq_true (by first | (with_reducible assumption) | assumption)
         have q102 : x13_1 < (l0.length : Int) := of_decide_eq_true (by first | (with_reducible assumption) | assumption)
         obtain ⟨ad102, e102, hx102_0, hx102_1⟩ := at_T29 HR0.out x13_1 p102 q102
         cases e102
         replace p102 := eq_true p102
         replace q102 := eq_true q102
         have p103 : 0 ≤ (x13_1 : Int) := of_decide_eq_true (by first | (with_reducible assumption) | assumption)
         have q103 : x13_1 < (l1.length : Int) := of_decide_eq_true (by first | (with_reducible assumption) | assumption)
         obtain ⟨ad103, e103, hx103_0, hx103_1⟩ := at_T29 HR1.out x13_1 p103 q103
         cases e103
         replace p103 := eq_true p103
         replace q103 := eq_true q103
         go_wp2
         repeat (go_quiet (fail); try go_wp2)
         go_roundg k1
         case measure => have := HK1.out; omega
         case rel => exact ⟨(wrap64 (x13_1 + 1)), (by first | rfl | (simp; done) | (simp [*]; done)), H', ⟨by have := HK1.out; omega⟩, (by repeat (first | exact Drawn0.refl _ | apply Drawn0.step))⟩
       ·rw [if_neg c7] at H
        exact absurd H (by simp)
      ·rw [if_neg c6] at H
       exact absurd H (by simp)
     ·rw [if_neg c5] at H
      exact absurd H (by simp)
    ·rw [if_neg c4] at H
     have c4b0 : decide (x13_1 < (l0.length : Int)) = false := decide_eq_false c4
     clear c4
     obtain rfl := Option.some.inj H
     go_wp2
     repeat (go_quiet (fail); try go_wp2)
     go_ret
     exact ⟨by first | rfl | (simp; done) | (simp [*]; done), (by repeat (first | exact Drawn0.refl _ | apply Drawn0.step))⟩
 ·rw [if_neg c3] at H
  have c3b0 : ((l0.length : Int) == (l1.length : Int)) = false := beq_eq_false_iff_ne.mpr c3
  have c3b1 : ((l0.length : Int) != (l1.length : Int)) = true := bne_iff_ne.mpr c3
  have c3b2 : (l0.length == l1.length) = false := by first | simpa using c3 | (simp at c3 ⊢; omega)
  obtain rfl := Option.some.inj H
  go_enter Try.func24, Try.ntmps24
  go_wp2
  repeat (go_quiet (fail); try go_wp2)
  go_ret
  exact ⟨by first | rfl | (simp; done) | (simp [*]; done), (by repeat (first | exact Drawn0.refl _ | apply Drawn0.step))⟩

/-! ### slices_Equal_string_string: function 25 -/
def slices_Equal_string_string.l0 : Nat → List ByteArray → List ByteArray → Int → Int → Option (Bool)
 | 0, _, _, _, _ => none
 | k + 1, x0, x1, x12, x13 => if x13 < x12 then (if 0 ≤ x13 then (if x13 < (x0.length : Int) then (if x13 < (x1.length : Int) then (if (rdOf ByteArray.empty x0 x13).toList = (rdOf ByteArray.empty x1 x13).toList then (slices_Equal_string_string.l0 k x0 x1 x12 (wrap64 (x13 + 1))) else (some false)) else (none)) else (none)) else (none)) else (some true)
def slices_Equal_string_string.f (k : Nat) (l0 : List ByteArray) (l1 : List ByteArray) : Option (Bool) := if (l0.length : Int) = (l1.length : Int) then (slices_Equal_string_string.l0 k l0 l1 (l0.length : Int) 0) else (some false)
theorem slices_Equal_string_string.mono_l : ∀ k, (∀ y0 y1 y2 y3, LeO (slices_Equal_string_string.l0 k y0 y1 y2 y3) (slices_Equal_string_string.l0 (k + 1) y0 y1 y2 y3))
 | 0 => fun _ _ _ _ r h => by simp [slices_Equal_string_string.l0] at h
 | k + 1 => by
  have ih0 := slices_Equal_string_string.mono_l k
  ·intro y0 y1 y2 y3
   unfold slices_Equal_string_string.l0
   repeat' first
   | (with_reducible exact ih0 _ _ _ _)
   | (with_reducible exact LeO.refl _)
   | (with_reducible exact LeO.none _)
   | (with_reducible refine LeO.ite ?_ ?_)
   | (with_reducible refine LeO.bind ?_ (fun _ => ?_))
   | exact ih0 _ _ _ _
   | exact LeO.none _
   | refine LeO.ite ?_ ?_
   | refine LeO.bind ?_ (fun _ => ?_)
theorem slices_Equal_string_string.mono : ∀ a0 a1 k, LeO (slices_Equal_string_string.f k a0 a1) (slices_Equal_string_string.f (k + 1) a0 a1) := by
 intro a0 a1 k
 have ih0 := slices_Equal_string_string.mono_l k
 unfold slices_Equal_string_string.f
 repeat' first
  | (with_reducible exact ih0 _ _ _ _)
  | (with_reducible exact LeO.refl _)
  | (with_reducible exact LeO.none _)
  | (with_reducible refine LeO.ite ?_ ?_)
  | (with_reducible refine LeO.bind ?_ (fun _ => ?_))
  | exact ih0 _ _ _ _
  | exact LeO.none _
  | refine LeO.ite ?_ ?_
  | refine LeO.bind ?_ (fun _ => ?_)
set_option maxHeartbeats 8000000 in
set_option maxRecDepth 100000 in
theorem slices_Equal_string_string.calls (k : Nat) (A0 : Option Addr) (c0 : Nat) (l0 : List ByteArray) (A1 : Option Addr) (c1 : Nat) (l1 : List ByteArray) (r : Bool) (w : World) (hr0 : Kd.C Kd.string w A0 l0.length l0) (hc0 : l0.length ≤ c0) (hr1 : Kd.C Kd.string w A1 l1.length l1) (hc1 : l1.length ≤ c1) (h : slices_Equal_string_string.f k l0 l1 = some r) :
 Calls Try.prog 25 #[.slice A0 l0.length c0, .slice A1 l1.length c1] w fun e w' => e = .returned (.bool r) ∧ Drawn0 w w' := by
 have HR0 := Aside0.mk hr0
 have HC0 := Aside0.mk hc0
 clear hr0 hc0
 have HR1 := Aside0.mk hr1
 have HC1 := Aside0.mk hc1
 clear hr1 hc1
 have H : (if (l0.length : Int) = (l1.length : Int) then (slices_Equal_string_string.l0 k l0 l1 (l0.length : Int) 0) else (some false)) = some r := h
 clear h
 by_cases c3 : (l0.length : Int) = (l1.length : Int)
 ·rw [if_pos c3] at H
  have c3b0 : ((l0.length : Int) == (l1.length : Int)) = true := beq_iff_eq.mpr c3
  have c3b1 : ((l0.length : Int) != (l1.length : Int)) = false := bne_eq_false_iff_eq.mpr c3
  have c3b2 : (l0.length == l1.length) = true := by first | simpa using c3 | (simp at c3 ⊢; omega)
  clear c3
  have H' := Aside0.mk H
  clear H
  go_enter Try.func25, Try.ntmps25
  go_wp2
  repeat (go_quiet (fail); try go_wp2)
  go_loopg [13] k (fun kq v13 w' => ∃ (x13_1 : Int), v13 = .int .i64 x13_1 ∧ Aside0 (slices_Equal_string_string.l0 kq l0 l1 (l0.length : Int) x13_1 = some r) ∧ Aside0 (kq ≤ k) ∧ Drawn0 w w')
  case atStart => exact ⟨(0), (by first | rfl | (simp; done) | (simp [*]; done)), H', ⟨Nat.le_refl _⟩, (by repeat (first | exact Drawn0.refl _ | apply Drawn0.step))⟩
  case round =>
   clear H'
   try clear c1
   try clear c2
   try clear p2
   try clear c3
   try clear c3b0
   try clear c3b1
   try clear c3b2
   obtain ⟨x13_1, rfl, HA, HK1, ⟨m1, rfl⟩⟩ := hrel
   cases gk with
   | zero => exact absurd HA.out (by simp [slices_Equal_string_string.l0])
   | succ k1 =>
    have H := HA.out
    clear HA
    simp only [slices_Equal_string_string.l0] at H
    by_cases c4 : x13_1 < (l0.length : Int)
    ·rw [if_pos c4] at H
     have c4b0 : decide (x13_1 < (l0.length : Int)) = true := decide_eq_true c4
     clear c4
     by_cases c5 : 0 ≤ x13_1
     ·rw [if_pos c5] at H
      have c5b0 : decide (0 ≤ x13_1) = true := decide_eq_true c5
      clear c5
      by_cases c6 : x13_1 < (l0.length : Int)
      ·rw [if_pos c6] at H
       have c6b0 : decide (x13_1 < (l0.length : Int)) = true := decide_eq_true c6
       clear c6
       by_cases c7 : x13_1 < (l1.length : Int)
       ·rw [if_pos c7] at H
        have c7b0 : decide (x13_1 < (l1.length : Int)) = true := decide_eq_true c7
        clear c7
        by_cases c8 : (rdOf ByteArray.empty l0 x13_1).toList = (rdOf ByteArray.empty l1 x13_1).toList
        ·rw [if_pos c8] at H
         have c8b0 : ((rdOf ByteArray.empty l0 x13_1).toList == (rdOf ByteArray.empty l1 x13_1).toList) = true := beq_iff_eq.mpr c8
         have c8b1 : ((rdOf ByteArray.empty l0 x13_1).toList != (rdOf ByteArray.empty l1 x13_1).toList) = false := bne_eq_false_iff_eq.mpr c8
         clear c8
         have H' := Aside0.mk H
         clear H
         have p104 : 0 ≤ (x13_1 : Int) := of_decide_eq_true (by first | (with_reducible assumption) | assumption)
         have q104 : x13_1 < (l0.length : Int) := of_decide_eq_true (by first | (with_reducible assumption) | assumption)
         obtain ⟨ad104, e104, hx104_0⟩ := Kd.at_string HR0.out x13_1 p104 q104
         cases e104
         replace p104 := eq_true p104
         replace q104 := eq_true q104
         have p105 : 0 ≤ (x13_1 : Int) := of_decide_eq_true (by first | (with_reducible assumption) | assumption)
         have q105 : x13_1 < (l1.length : Int) := of_decide_eq_true (by first | (with_reducible assumption) | assumption)
         obtain ⟨ad105, e105, hx105_0⟩ := Kd.at_string HR1.out x13_1 p105 q105
         cases e105
         replace p105 := eq_true p105
         replace q105 := eq_true q105
         go_wp2
         repeat (go_quiet (fail); try go_wp2)
         go_roundg k1
         case measure => have := HK1.out; omega
         case rel => exact ⟨(wrap64 (x13_1 + 1)), (by first | rfl | (simp; done) | (simp [*]; done)), H', ⟨by have := HK1.out; omega⟩, (by repeat (first | exact Drawn0.refl _ | apply Drawn0.step))⟩
        ·rw [if_neg c8] at H
         have c8b0 : ((rdOf ByteArray.empty l0 x13_1).toList == (rdOf ByteArray.empty l1 x13_1).toList) = false := beq_eq_false_iff_ne.mpr c8
         have c8b1 : ((rdOf ByteArray.empty l0 x13_1).toList != (rdOf ByteArray.empty l1 x13_1).toList) = true := bne_iff_ne.mpr c8
         obtain rfl := Option.some.inj H
         have p104 : 0 ≤ (x13_1 : Int) := of_decide_eq_true (by first | (with_reducible assumption) | assumption)
         have q104 : x13_1 < (l0.length : Int) := of_decide_eq_true (by first | (with_reducible assumption) | assumption)
         obtain ⟨ad104, e104, hx104_0⟩ := Kd.at_string HR0.out x13_1 p104 q104
         cases e104
         replace p104 := eq_true p104
         replace q104 := eq_true q104
         have p105 : 0 ≤ (x13_1 : Int) := of_decide_eq_true (by first | (with_reducible assumption) | assumption)
         have q105 : x13_1 < (l1.length : Int) := of_decide_eq_true (by first | (with_reducible assumption) | assumption)
         obtain ⟨ad105, e105, hx105_0⟩ := Kd.at_string HR1.out x13_1 p105 q105
         cases e105
         replace p105 := eq_true p105
         replace q105 := eq_true q105
         go_wp2
         repeat (go_quiet (fail); try go_wp2)
         go_ret
         exact ⟨by first | rfl | (simp; done) | (simp [*]; done), (by repeat (first | exact Drawn0.refl _ | apply Drawn0.step))⟩
       ·rw [if_neg c7] at H
        exact absurd H (by simp)
      ·rw [if_neg c6] at H
       exact absurd H (by simp)
     ·rw [if_neg c5] at H
      exact absurd H (by simp)
    ·rw [if_neg c4] at H
     have c4b0 : decide (x13_1 < (l0.length : Int)) = false := decide_eq_false c4
     clear c4
     obtain rfl := Option.some.inj H
     go_wp2
     repeat (go_quiet (fail); try go_wp2)
     go_ret
     exact ⟨by first | rfl | (simp; done) | (simp [*]; done), (by repeat (first | exact Drawn0.refl _ | apply Drawn0.step))⟩
 ·rw [if_neg c3] at H
  have c3b0 : ((l0.length : Int) == (l1.length : Int)) = false := beq_eq_false_iff_ne.mpr c3
  have c3b1 : ((l0.length : Int) != (l1.length : Int)) = true := bne_iff_ne.mpr c3
  have c3b2 : (l0.length == l1.length) = false := by first | simpa using c3 | (simp at c3 ⊢; omega)
  obtain rfl := Option.some.inj H
  go_enter Try.func25, Try.ntmps25
  go_wp2
  repeat (go_quiet (fail); try go_wp2)
  go_ret
  exact ⟨by first | rfl | (simp; done) | (simp [*]; done), (by repeat (first | exact Drawn0.refl _ | apply Drawn0.step))⟩

/-! ### item_Same: function 17 -/
def item_Same.f (k : Nat) (a0_0 : Int) (a0_1 : ByteArray) (l0_2 : List (S29)) (l0_3 : List ByteArray) (a0_4 : Int) (a1_0 : Int) (a1_1 : ByteArray) (l1_2 : List (S29)) (l1_3 : List ByteArray) (a1_4 : Int) : Option (Bool) := if a0_0 = a1_0 then (if a0_1.toList = a1_1.toList then (if a0_4 = a1_4 then ((api_Field_24.f k l0_2 l1_2).bind fun t108 => (if t108 = true then ((slices_Equal_string_string.f k l0_3 l1_3).bind fun t109 => (some t109)) else (some false))) else (some false)) else (some false)) else (some false)
theorem item_Same.mono : ∀ a0 a1 a2 a3 a4 a5 a6 a7 a8 a9 k, LeO (item_Same.f k a0 a1 a2 a3 a4 a5 a6 a7 a8 a9) (item_Same.f (k + 1) a0 a1 a2 a3 a4 a5 a6 a7 a8 a9) := by
 intro a0 a1 a2 a3 a4 a5 a6 a7 a8 a9 k
 unfold item_Same.f
 repeat' first
  | (with_reducible exact api_Field_24.mono _ _ _)
  | (with_reducible exact slices_Equal_string_string.mono _ _ _)
  | (with_reducible exact LeO.refl _)
  | (with_reducible exact LeO.none _)
  | (with_reducible refine LeO.ite ?_ ?_)
  | (with_reducible refine LeO.bind ?_ (fun _ => ?_))
  | exact api_Field_24.mono _ _ _
  | exact slices_Equal_string_string.mono _ _ _
  | exact LeO.none _
  | refine LeO.ite ?_ ?_
  | refine LeO.bind ?_ (fun _ => ?_)
set_option maxHeartbeats 8000000 in
set_option maxRecDepth 100000 in
theorem item_Same.calls (k : Nat) (a0_0 : Int) (a0_1 : ByteArray) (A0_2 : Option Addr) (c0_2 : Nat) (l0_2 : List (S29)) (A0_3 : Option Addr) (c0_3 : Nat) (l0_3 : List ByteArray) (a0_4 : Int) (a1_0 : Int) (a1_1 : ByteArray) (A1_2 : Option Addr) (c1_2 : Nat) (l1_2 : List (S29)) (A1_3 : Option Addr) (c1_3 : Nat) (l1_3 : List ByteArray) (a1_4 : Int) (r : Bool) (w : World) (hr0_2 : Kd.C k29 w A0_2 l0_2.length l0_2) (hc0_2 : l0_2.length ≤ c0_2) (hr0_3 : Kd.C Kd.string w A0_3 l0_3.length l0_3) (hc0_3 : l0_3.length ≤ c0_3) (hr1_2 : Kd.C k29 w A1_2 l1_2.length l1_2) (hc1_2 : l1_2.length ≤ c1_2) (hr1_3 : Kd.C Kd.string w A1_3 l1_3.length l1_3) (hc1_3 : l1_3.length ≤ c1_3) (h : item_Same.f k a0_0 a0_1 l0_2 l0_3 a0_4 a1_0 a1_1 l1_2 l1_3 a1_4 = some r) :
 Calls Try.prog 17 #[.agg #[.int .i64 a0_0, .string a0_1, .slice A0_2 l0_2.length c0_2, .slice A0_3 l0_3.length c0_3, .int .i64 a0_4], .agg #[.int .i64 a1_0, .string a1_1, .slice A1_2 l1_2.length c1_2, .slice A1_3 l1_3.length c1_3, .int .i64 a1_4]] w fun e w' => e = .returned (.bool r) ∧ Below w.heap.size w w' := by
 have hu26 := Try.underlying26
 have HR0_2 := Aside0.mk hr0_2
 have HC0_2 := Aside0.mk hc0_2
 clear hr0_2 hc0_2
 have HR0_3 := Aside0.mk hr0_3
 have HC0_3 := Aside0.mk hc0_3
 clear hr0_3 hc0_3
 have HR1_2 := Aside0.mk hr1_2
 have HC1_2 := Aside0.mk hc1_2
 clear hr1_2 hc1_2
 have HR1_3 := Aside0.mk hr1_3
 have HC1_3 := Aside0.mk hc1_3
 clear hr1_3 hc1_3
 have HB := Aside0.mk (Below.refl w.heap.size w)
 have H : (if a0_0 = a1_0 then (if a0_1.toList = a1_1.toList then (if a0_4 = a1_4 then ((api_Field_24.f k l0_2 l1_2).bind fun t108 => (if t108 = true then ((slices_Equal_string_string.f k l0_3 l1_3).bind fun t109 => (some t109)) else (some false))) else (some false)) else (some false)) else (some false)) = some r := h
 clear h
 by_cases c3 : a0_0 = a1_0
 ·rw [if_pos c3] at H
  have c3b0 : (a0_0 == a1_0) = true := beq_iff_eq.mpr c3
  have c3b1 : (a0_0 != a1_0) = false := bne_eq_false_iff_eq.mpr c3
  clear c3
  by_cases c4 : a0_1.toList = a1_1.toList
  ·rw [if_pos c4] at H
   have c4b0 : (a0_1.toList == a1_1.toList) = true := beq_iff_eq.mpr c4
   have c4b1 : (a0_1.toList != a1_1.toList) = false := bne_eq_false_iff_eq.mpr c4
   clear c4
   by_cases c5 : a0_4 = a1_4
   ·rw [if_pos c5] at H
    have c5b0 : (a0_4 == a1_4) = true := beq_iff_eq.mpr c5
    have c5b1 : (a0_4 != a1_4) = false := bne_eq_false_iff_eq.mpr c5
    clear c5
    replace H := Option.bind_eq_some_iff.mp H
    obtain ⟨t108, A60, H⟩ := H
    replace H : (if t108 = true then ((slices_Equal_string_string.f k l0_3 l1_3).bind fun t109 => (some t109)) else (some false)) = some r := H
    have A6 := Aside0.mk A60
    clear A60
    by_cases c7 : t108 = true
    ·subst c7
     have H1 : ((slices_Equal_string_string.f k l0_3 l1_3).bind fun t109 => (some t109)) = some r := by rw [if_pos rfl] at H; exact H
     clear H
     have H := H1
     clear H1
     replace H := Option.bind_eq_some_iff.mp H
     obtain ⟨t109, A80, H⟩ := H
     replace H : (some t109) = some r := H
     have A8 := Aside0.mk A80
     clear A80
     obtain rfl := Option.some.inj H
     go_enter Try.func17, Try.ntmps17
     go_wp2_with (first | ((with_reducible refine gate_dst (N := 2) rfl ?_); refine box_event ?hg (N := 2) ?hd (cs := #[.int .i64 a0_0, .string a0_1, .slice A0_2 l0_2.length c0_2, .slice A0_3 l0_3.length c0_3, .int .i64 a0_4]) (t := 26) ?hr ?_; (case hd => rfl); (case hg => rfl); (case hr => first | (go_simp; done) | (go_simp; rfl)); intro gb106 hg w9 hbox hb; have n0_ := Aside0.mk (below_step (qdb35_ HB.out) hb); have n1_ := Aside0.mk (hbox); have n2_ := Aside0.mk ((by rw [hg]; exact (below_size (qdb35_ HB.out)) : w.heap.size ≤ gb106)); have n3_ := Aside0.mk ((by rw [hg]; exact (below_size (qdb35_ HB.out)) : w.heap.size ≤ gb106)); clear HB; have HB := n0_; have BK106 := n1_; have GW106 := n2_; have GE106 := n3_; clear n0_ n1_ n2_ n3_; clear hb hbox hg) | ((with_reducible refine gate_dst (N := 3) rfl ?_); refine box_event ?hg (N := 3) ?hd (cs := #[.int .i64 a1_0, .string a1_1, .slice A1_2 l1_2.length c1_2, .slice A1_3 l1_3.length c1_3, .int .i64 a1_4]) (t := 26) ?hr ?_; (case hd => rfl); (case hg => rfl); (case hr => first | (go_simp; done) | (go_simp; rfl)); intro gb107 hg w10 hbox hb; have n0_ := Aside0.mk (blk_below (g := gb106) (o := .cells #[.int .i64 a0_0, .string a0_1, .slice A0_2 l0_2.length c0_2, .slice A0_3 l0_3.length c0_3, .int .i64 a0_4] 26 (0, 0)) (q1466_ BK106.out) hb); have n1_ := Aside0.mk (below_step (qed14_ HB.out GE106.out) hb); have n2_ := Aside0.mk (hbox); have n3_ := Aside0.mk ((by rw [hg]; exact (below_size (qed14_ HB.out GE106.out)) : w.heap.size ≤ gb107)); have n4_ := Aside0.mk ((by rw [hg]; exact (below_size (qed14_ HB.out GE106.out)) : w.heap.size ≤ gb107)); have n5_ := Aside0.mk ((by rw [hg]; exact Nat.ne_of_lt (blk_lt (g := gb106) (o := .cells #[.int .i64 a0_0, .string a0_1, .slice A0_2 l0_2.length c0_2, .slice A0_3 l0_3.length c0_3, .int .i64 a0_4] 26 (0, 0)) (q1466_ BK106.out)) : gb106 ≠ gb107)); have n6_ := Aside0.mk ((by rw [hg]; exact Nat.ne_of_gt (blk_lt (g := gb106) (o := .cells #[.int .i64 a0_0, .string a0_1, .slice A0_2 l0_2.length c0_2, .slice A0_3 l0_3.length c0_3, .int .i64 a0_4] 26 (0, 0)) (q1466_ BK106.out)) : gb107 ≠ gb106)); clear BK106; clear HB; have BK106 := n0_; have HB := n1_; have BK107 := n2_; have GW107 := n3_; have GE107 := n4_; have NB106_107 := n5_; have NB107_106 := n6_; clear n0_ n1_ n2_ n3_ n4_ n5_ n6_; clear hb hbox hg; have hnb11 := NB106_107.out; have hnc11 := NB107_106.out; have hcz12_0 : w10.cell? ⟨gb106, 0, none⟩ = some (.int .i64 a0_0) := (blk_cell BK106.out 0).trans rfl; have hcz12_1 : w10.cell? ⟨gb106, 1, none⟩ = some (.string a0_1) := (blk_cell BK106.out 1).trans rfl; have hcz12_2 : w10.cell? ⟨gb106, 2, none⟩ = some (.slice A0_2 l0_2.length c0_2) := (blk_cell BK106.out 2).trans rfl; have hcz12_3 : w10.cell? ⟨gb106, 3, none⟩ = some (.slice A0_3 l0_3.length c0_3) := (blk_cell BK106.out 3).trans rfl; have hcz12_4 : w10.cell? ⟨gb106, 4, none⟩ = some (.int .i64 a0_4) := (blk_cell BK106.out 4).trans rfl; have hfz12_0 := blk_frozen BK106.out 0; have hfz12_1 := blk_frozen BK106.out 1; have hfz12_2 := blk_frozen BK106.out 2; have hfz12_3 := blk_frozen BK106.out 3; have hfz12_4 := blk_frozen BK106.out 4; have hcz13_0 : w10.cell? ⟨gb107, 0, none⟩ = some (.int .i64 a1_0) := (blk_cell BK107.out 0).trans rfl; have hcz13_1 : w10.cell? ⟨gb107, 1, none⟩ = some (.string a1_1) := (blk_cell BK107.out 1).trans rfl; have hcz13_2 : w10.cell? ⟨gb107, 2, none⟩ = some (.slice A1_2 l1_2.length c1_2) := (blk_cell BK107.out 2).trans rfl; have hcz13_3 : w10.cell? ⟨gb107, 3, none⟩ = some (.slice A1_3 l1_3.length c1_3) := (blk_cell BK107.out 3).trans rfl; have hcz13_4 : w10.cell? ⟨gb107, 4, none⟩ = some (.int .i64 a1_4) := (blk_cell BK107.out 4).trans rfl; have hfz13_0 := blk_frozen BK107.out 0; have hfz13_1 := blk_frozen BK107.out 1; have hfz13_2 := blk_frozen BK107.out 2; have hfz13_3 := blk_frozen BK107.out 3; have hfz13_4 := blk_frozen BK107.out 4) | (go_at_call 24; (with_reducible refine (api_Field_24.calls k _ _ l0_2 _ _ l1_2 true _ ?side1 ?side2 ?side3 ?side4 A6.out).mono ?_); (case side1 => exact qC_ ((Kd.C_below HR0_2.out HB.out))); (case side2 => exact HC0_2.out); (case side3 => exact qC_ ((Kd.C_below HR1_2.out HB.out))); (case side4 => exact HC1_2.out); rintro e w' ⟨rfl, ⟨nd, rfl⟩⟩) | (go_at_call 25; (with_reducible refine (slices_Equal_string_string.calls k _ _ l0_3 _ _ l1_3 t109 _ ?side1 ?side2 ?side3 ?side4 A8.out).mono ?_); (case side1 => repeat (first | exact (Kd.C_below HR0_3.out (q8f57_ HB.out GE106.out GE107.out)) | (with_reducible refine Kd.C_alloc ?_ _) | (with_reducible refine Kd.C_drewN ?_ _) | (with_reducible refine Kd.C_drew ?_))); (case side2 => exact HC0_3.out); (case side3 => repeat (first | exact (Kd.C_below HR1_3.out (q8f57_ HB.out GE106.out GE107.out)) | (with_reducible refine Kd.C_alloc ?_ _) | (with_reducible refine Kd.C_drewN ?_ _) | (with_reducible refine Kd.C_drew ?_))); (case side4 => exact HC1_3.out); rintro e w' ⟨rfl, ⟨nd, rfl⟩⟩))
     go_ret
     exact ⟨by first | rfl | (simp [errW_none, errW_some] <;> rfl) | (simp [*, errW_none, errW_some] <;> rfl), (q8f57_ HB.out GE106.out GE107.out)⟩
    ·replace c7 := Bool.eq_false_iff.mpr c7
     subst c7
     have H1 : (some false) = some r := by rw [if_neg (show ¬ (false = true) by decide)] at H; exact H
     clear H
     have H := H1
     clear H1
     obtain rfl := Option.some.inj H
     go_enter Try.func17, Try.ntmps17
     go_wp2_with (first | ((with_reducible refine gate_dst (N := 2) rfl ?_); refine box_event ?hg (N := 2) ?hd (cs := #[.int .i64 a0_0, .string a0_1, .slice A0_2 l0_2.length c0_2, .slice A0_3 l0_3.length c0_3, .int .i64 a0_4]) (t := 26) ?hr ?_; (case hd => rfl); (case hg => rfl); (case hr => first | (go_simp; done) | (go_simp; rfl)); intro gb106 hg w14 hbox hb; have n0_ := Aside0.mk (below_step (qdb35_ HB.out) hb); have n1_ := Aside0.mk (hbox); have n2_ := Aside0.mk ((by rw [hg]; exact (below_size (qdb35_ HB.out)) : w.heap.size ≤ gb106)); have n3_ := Aside0.mk ((by rw [hg]; exact (below_size (qdb35_ HB.out)) : w.heap.size ≤ gb106)); clear HB; have HB := n0_; have BK106 := n1_; have GW106 := n2_; have GE106 := n3_; clear n0_ n1_ n2_ n3_; clear hb hbox hg) | ((with_reducible refine gate_dst (N := 3) rfl ?_); refine box_event ?hg (N := 3) ?hd (cs := #[.int .i64 a1_0, .string a1_1, .slice A1_2 l1_2.length c1_2, .slice A1_3 l1_3.length c1_3, .int .i64 a1_4]) (t := 26) ?hr ?_; (case hd => rfl); (case hg => rfl); (case hr => first | (go_simp; done) | (go_simp; rfl)); intro gb107 hg w15 hbox hb; have n0_ := Aside0.mk (blk_below (g := gb106) (o := .cells #[.int .i64 a0_0, .string a0_1, .slice A0_2 l0_2.length c0_2, .slice A0_3 l0_3.length c0_3, .int .i64 a0_4] 26 (0, 0)) (q1466_ BK106.out) hb); have n1_ := Aside0.mk (below_step (qed14_ HB.out GE106.out) hb); have n2_ := Aside0.mk (hbox); have n3_ := Aside0.mk ((by rw [hg]; exact (below_size (qed14_ HB.out GE106.out)) : w.heap.size ≤ gb107)); have n4_ := Aside0.mk ((by rw [hg]; exact (below_size (qed14_ HB.out GE106.out)) : w.heap.size ≤ gb107)); have n5_ := Aside0.mk ((by rw [hg]; exact Nat.ne_of_lt (blk_lt (g := gb106) (o := .cells #[.int .i64 a0_0, .string a0_1, .slice A0_2 l0_2.length c0_2, .slice A0_3 l0_3.length c0_3, .int .i64 a0_4] 26 (0, 0)) (q1466_ BK106.out)) : gb106 ≠ gb107)); have n6_ := Aside0.mk ((by rw [hg]; exact Nat.ne_of_gt (blk_lt (g := gb106) (o := .cells #[.int .i64 a0_0, .string a0_1, .slice A0_2 l0_2.length c0_2, .slice A0_3 l0_3.length c0_3, .int .i64 a0_4] 26 (0, 0)) (q1466_ BK106.out)) : gb107 ≠ gb106)); clear BK106; clear HB; have BK106 := n0_; have HB := n1_; have BK107 := n2_; have GW107 := n3_; have GE107 := n4_; have NB106_107 := n5_; have NB107_106 := n6_; clear n0_ n1_ n2_ n3_ n4_ n5_ n6_; clear hb hbox hg; have hnb16 := NB106_107.out; have hnc16 := NB107_106.out; have hcz17_0 : w15.cell? ⟨gb106, 0, none⟩ = some (.int .i64 a0_0) := (blk_cell BK106.out 0).trans rfl; have hcz17_1 : w15.cell? ⟨gb106, 1, none⟩ = some (.string a0_1) := (blk_cell BK106.out 1).trans rfl; have hcz17_2 : w15.cell? ⟨gb106, 2, none⟩ = some (.slice A0_2 l0_2.length c0_2) := (blk_cell BK106.out 2).trans rfl; have hcz17_3 : w15.cell? ⟨gb106, 3, none⟩ = some (.slice A0_3 l0_3.length c0_3) := (blk_cell BK106.out 3).trans rfl; have hcz17_4 : w15.cell? ⟨gb106, 4, none⟩ = some (.int .i64 a0_4) := (blk_cell BK106.out 4).trans rfl; have hfz17_0 := blk_frozen BK106.out 0; have hfz17_1 := blk_frozen BK106.out 1; have hfz17_2 := blk_frozen BK106.out 2; have hfz17_3 := blk_frozen BK106.out 3; have hfz17_4 := blk_frozen BK106.out 4; have hcz18_0 : w15.cell? ⟨gb107, 0, none⟩ = some (.int .i64 a1_0) := (blk_cell BK107.out 0).trans rfl; have hcz18_1 : w15.cell? ⟨gb107, 1, none⟩ = some (.string a1_1) := (blk_cell BK107.out 1).trans rfl; have hcz18_2 : w15.cell? ⟨gb107, 2, none⟩ = some (.slice A1_2 l1_2.length c1_2) := (blk_cell BK107.out 2).trans rfl; have hcz18_3 : w15.cell? ⟨gb107, 3, none⟩ = some (.slice A1_3 l1_3.length c1_3) := (blk_cell BK107.out 3).trans rfl; have hcz18_4 : w15.cell? ⟨gb107, 4, none⟩ = some (.int .i64 a1_4) := (blk_cell BK107.out 4).trans rfl; have hfz18_0 := blk_frozen BK107.out 0; have hfz18_1 := blk_frozen BK107.out 1; have hfz18_2 := blk_frozen BK107.out 2; have hfz18_3 := blk_frozen BK107.out 3; have hfz18_4 := blk_frozen BK107.out 4) | (go_at_call 24; (with_reducible refine (api_Field_24.calls k _ _ l0_2 _ _ l1_2 false _ ?side1 ?side2 ?side3 ?side4 A6.out).mono ?_); (case side1 => exact qC_ ((Kd.C_below HR0_2.out HB.out))); (case side2 => exact HC0_2.out); (case side3 => exact qC_ ((Kd.C_below HR1_2.out HB.out))); (case side4 => exact HC1_2.out); rintro e w' ⟨rfl, ⟨nd, rfl⟩⟩))
     go_ret
     exact ⟨by first | rfl | (simp [errW_none, errW_some] <;> rfl) | (simp [*, errW_none, errW_some] <;> rfl), (q8f57_ HB.out GE106.out GE107.out)⟩
   ·rw [if_neg c5] at H
    have c5b0 : (a0_4 == a1_4) = false := beq_eq_false_iff_ne.mpr c5
    have c5b1 : (a0_4 != a1_4) = true := bne_iff_ne.mpr c5
    obtain rfl := Option.some.inj H
    go_enter Try.func17, Try.ntmps17
    go_wp2_with (first | ((with_reducible refine gate_dst (N := 2) rfl ?_); refine box_event ?hg (N := 2) ?hd (cs := #[.int .i64 a0_0, .string a0_1, .slice A0_2 l0_2.length c0_2, .slice A0_3 l0_3.length c0_3, .int .i64 a0_4]) (t := 26) ?hr ?_; (case hd => rfl); (case hg => rfl); (case hr => first | (go_simp; done) | (go_simp; rfl)); intro gb106 hg w19 hbox hb; have n0_ := Aside0.mk (below_step (qdb35_ HB.out) hb); have n1_ := Aside0.mk (hbox); have n2_ := Aside0.mk ((by rw [hg]; exact (below_size (qdb35_ HB.out)) : w.heap.size ≤ gb106)); have n3_ := Aside0.mk ((by rw [hg]; exact (below_size (qdb35_ HB.out)) : w.heap.size ≤ gb106)); clear HB; have HB := n0_; have BK106 := n1_; have GW106 := n2_; have GE106 := n3_; clear n0_ n1_ n2_ n3_; clear hb hbox hg) | ((with_reducible refine gate_dst (N := 3) rfl ?_); refine box_event ?hg (N := 3) ?hd (cs := #[.int .i64 a1_0, .string a1_1, .slice A1_2 l1_2.length c1_2, .slice A1_3 l1_3.length c1_3, .int .i64 a1_4]) (t := 26) ?hr ?_; (case hd => rfl); (case hg => rfl); (case hr => first | (go_simp; done) | (go_simp; rfl)); intro gb107 hg w20 hbox hb; have n0_ := Aside0.mk (blk_below (g := gb106) (o := .cells #[.int .i64 a0_0, .string a0_1, .slice A0_2 l0_2.length c0_2, .slice A0_3 l0_3.length c0_3, .int .i64 a0_4] 26 (0, 0)) (q1466_ BK106.out) hb); have n1_ := Aside0.mk (below_step (qed14_ HB.out GE106.out) hb); have n2_ := Aside0.mk (hbox); have n3_ := Aside0.mk ((by rw [hg]; exact (below_size (qed14_ HB.out GE106.out)) : w.heap.size ≤ gb107)); have n4_ := Aside0.mk ((by rw [hg]; exact (below_size (qed14_ HB.out GE106.out)) : w.heap.size ≤ gb107)); have n5_ := Aside0.mk ((by rw [hg]; exact Nat.ne_of_lt (blk_lt (g := gb106) (o := .cells #[.int .i64 a0_0, .string a0_1, .slice A0_2 l0_2.length c0_2, .slice A0_3 l0_3.length c0_3, .int .i64 a0_4] 26 (0, 0)) (q1466_ BK106.out)) : gb106 ≠ gb107)); have n6_ := Aside0.mk ((by rw [hg]; exact Nat.ne_of_gt (blk_lt (g := gb106) (o := .cells #[.int .i64 a0_0, .string a0_1, .slice A0_2 l0_2.length c0_2, .slice A0_3 l0_3.length c0_3, .int .i64 a0_4] 26 (0, 0)) (q1466_ BK106.out)) : gb107 ≠ gb106)); clear BK106; clear HB; have BK106 := n0_; have HB := n1_; have BK107 := n2_; have GW107 := n3_; have GE107 := n4_; have NB106_107 := n5_; have NB107_106 := n6_; clear n0_ n1_ n2_ n3_ n4_ n5_ n6_; clear hb hbox hg; have hnb21 := NB106_107.out; have hnc21 := NB107_106.out; have hcz22_0 : w20.cell? ⟨gb106, 0, none⟩ = some (.int .i64 a0_0) := (blk_cell BK106.out 0).trans rfl; have hcz22_1 : w20.cell? ⟨gb106, 1, none⟩ = some (.string a0_1) := (blk_cell BK106.out 1).trans rfl; have hcz22_2 : w20.cell? ⟨gb106, 2, none⟩ = some (.slice A0_2 l0_2.length c0_2) := (blk_cell BK106.out 2).trans rfl; have hcz22_3 : w20.cell? ⟨gb106, 3, none⟩ = some (.slice A0_3 l0_3.length c0_3) := (blk_cell BK106.out 3).trans rfl; have hcz22_4 : w20.cell? ⟨gb106, 4, none⟩ = some (.int .i64 a0_4) := (blk_cell BK106.out 4).trans rfl; have hfz22_0 := blk_frozen BK106.out 0; have hfz22_1 := blk_frozen BK106.out 1; have hfz22_2 := blk_frozen BK106.out 2; have hfz22_3 := blk_frozen BK106.out 3; have hfz22_4 := blk_frozen BK106.out 4; have hcz23_0 : w20.cell? ⟨gb107, 0, none⟩ = some (.int .i64 a1_0) := (blk_cell BK107.out 0).trans rfl; have hcz23_1 : w20.cell? ⟨gb107, 1, none⟩ = some (.string a1_1) := (blk_cell BK107.out 1).trans rfl; have hcz23_2 : w20.cell? ⟨gb107, 2, none⟩ = some (.slice A1_2 l1_2.length c1_2) := (blk_cell BK107.out 2).trans rfl; have hcz23_3 : w20.cell? ⟨gb107, 3, none⟩ = some (.slice A1_3 l1_3.length c1_3) := (blk_cell BK107.out 3).trans rfl; have hcz23_4 : w20.cell? ⟨gb107, 4, none⟩ = some (.int .i64 a1_4) := (blk_cell BK107.out 4).trans rfl; have hfz23_0 := blk_frozen BK107.out 0; have hfz23_1 := blk_frozen BK107.out 1; have hfz23_2 := blk_frozen BK107.out 2; have hfz23_3 := blk_frozen BK107.out 3; have hfz23_4 := blk_frozen BK107.out 4))
    go_ret
    exact ⟨by first | rfl | (simp [errW_none, errW_some] <;> rfl) | (simp [*, errW_none, errW_some] <;> rfl), (q8f57_ HB.out GE106.out GE107.out)⟩
  ·rw [if_neg c4] at H
   have c4b0 : (a0_1.toList == a1_1.toList) = false := beq_eq_false_iff_ne.mpr c4
   have c4b1 : (a0_1.toList != a1_1.toList) = true := bne_iff_ne.mpr c4
   obtain rfl := Option.some.inj H
   go_enter Try.func17, Try.ntmps17
   go_wp2_with (first | ((with_reducible refine gate_dst (N := 2) rfl ?_); refine box_event ?hg (N := 2) ?hd (cs := #[.int .i64 a0_0, .string a0_1, .slice A0_2 l0_2.length c0_2, .slice A0_3 l0_3.length c0_3, .int .i64 a0_4]) (t := 26) ?hr ?_; (case hd => rfl); (case hg => rfl); (case hr => first | (go_simp; done) | (go_simp; rfl)); intro gb106 hg w24 hbox hb; have n0_ := Aside0.mk (below_step (qdb35_ HB.out) hb); have n1_ := Aside0.mk (hbox); have n2_ := Aside0.mk ((by rw [hg]; exact (below_size (qdb35_ HB.out)) : w.heap.size ≤ gb106)); have n3_ := Aside0.mk ((by rw [hg]; exact (below_size (qdb35_ HB.out)) : w.heap.size ≤ gb106)); clear HB; have HB := n0_; have BK106 := n1_; have GW106 := n2_; have GE106 := n3_; clear n0_ n1_ n2_ n3_; clear hb hbox hg) | ((with_reducible refine gate_dst (N := 3) rfl ?_); refine box_event ?hg (N := 3) ?hd (cs := #[.int .i64 a1_0, .string a1_1, .slice A1_2 l1_2.length c1_2, .slice A1_3 l1_3.length c1_3, .int .i64 a1_4]) (t := 26) ?hr ?_; (case hd => rfl); (case hg => rfl); (case hr => first | (go_simp; done) | (go_simp; rfl)); intro gb107 hg w25 hbox hb; have n0_ := Aside0.mk (blk_below (g := gb106) (o := .cells #[.int .i64 a0_0, .string a0_1, .slice A0_2 l0_2.length c0_2, .slice A0_3 l0_3.length c0_3, .int .i64 a0_4] 26 (0, 0)) (q1466_ BK106.out) hb); have n1_ := Aside0.mk (below_step (qed14_ HB.out GE106.out) hb); have n2_ := Aside0.mk (hbox); have n3_ := Aside0.mk ((by rw [hg]; exact (below_size (qed14_ HB.out GE106.out)) : w.heap.size ≤ gb107)); have n4_ := Aside0.mk ((by rw [hg]; exact (below_size (qed14_ HB.out GE106.out)) : w.heap.size ≤ gb107)); have n5_ := Aside0.mk ((by rw [hg]; exact Nat.ne_of_lt (blk_lt (g := gb106) (o := .cells #[.int .i64 a0_0, .string a0_1, .slice A0_2 l0_2.length c0_2, .slice A0_3 l0_3.length c0_3, .int .i64 a0_4] 26 (0, 0)) (q1466_ BK106.out)) : gb106 ≠ gb107)); have n6_ := Aside0.mk ((by rw [hg]; exact Nat.ne_of_gt (blk_lt (g := gb106) (o := .cells #[.int .i64 a0_0, .string a0_1, .slice A0_2 l0_2.length c0_2, .slice A0_3 l0_3.length c0_3, .int .i64 a0_4] 26 (0, 0)) (q1466_ BK106.out)) : gb107 ≠ gb106)); clear BK106; clear HB; have BK106 := n0_; have HB := n1_; have BK107 := n2_; have GW107 := n3_; have GE107 := n4_; have NB106_107 := n5_; have NB107_106 := n6_; clear n0_ n1_ n2_ n3_ n4_ n5_ n6_; clear hb hbox hg; have hnb26 := NB106_107.out; have hnc26 := NB107_106.out; have hcz27_0 : w25.cell? ⟨gb106, 0, none⟩ = some (.int .i64 a0_0) := (blk_cell BK106.out 0).trans rfl; have hcz27_1 : w25.cell? ⟨gb106, 1, none⟩ = some (.string a0_1) := (blk_cell BK106.out 1).trans rfl; have hcz27_2 : w25.cell? ⟨gb106, 2, none⟩ = some (.slice A0_2 l0_2.length c0_2) := (blk_cell BK106.out 2).trans rfl; have hcz27_3 : w25.cell? ⟨gb106, 3, none⟩ = some (.slice A0_3 l0_3.length c0_3) := (blk_cell BK106.out 3).trans rfl; have hcz27_4 : w25.cell? ⟨gb106, 4, none⟩ = some (.int .i64 a0_4) := (blk_cell BK106.out 4).trans rfl; have hfz27_0 := blk_frozen BK106.out 0; have hfz27_1 := blk_frozen BK106.out 1; have hfz27_2 := blk_frozen BK106.out 2; have hfz27_3 := blk_frozen BK106.out 3; have hfz27_4 := blk_frozen BK106.out 4; have hcz28_0 : w25.cell? ⟨gb107, 0, none⟩ = some (.int .i64 a1_0) := (blk_cell BK107.out 0).trans rfl; have hcz28_1 : w25.cell? ⟨gb107, 1, none⟩ = some (.string a1_1) := (blk_cell BK107.out 1).trans rfl; have hcz28_2 : w25.cell? ⟨gb107, 2, none⟩ = some (.slice A1_2 l1_2.length c1_2) := (blk_cell BK107.out 2).trans rfl; have hcz28_3 : w25.cell? ⟨gb107, 3, none⟩ = some (.slice A1_3 l1_3.length c1_3) := (blk_cell BK107.out 3).trans rfl; have hcz28_4 : w25.cell? ⟨gb107, 4, none⟩ = some (.int .i64 a1_4) := (blk_cell BK107.out 4).trans rfl; have hfz28_0 := blk_frozen BK107.out 0; have hfz28_1 := blk_frozen BK107.out 1; have hfz28_2 := blk_frozen BK107.out 2; have hfz28_3 := blk_frozen BK107.out 3; have hfz28_4 := blk_frozen BK107.out 4))
   go_ret
   exact ⟨by first | rfl | (simp [errW_none, errW_some] <;> rfl) | (simp [*, errW_none, errW_some] <;> rfl), (q8f57_ HB.out GE106.out GE107.out)⟩
 ·rw [if_neg c3] at H
  have c3b0 : (a0_0 == a1_0) = false := beq_eq_false_iff_ne.mpr c3
  have c3b1 : (a0_0 != a1_0) = true := bne_iff_ne.mpr c3
  obtain rfl := Option.some.inj H
  go_enter Try.func17, Try.ntmps17
  go_wp2_with (first | ((with_reducible refine gate_dst (N := 2) rfl ?_); refine box_event ?hg (N := 2) ?hd (cs := #[.int .i64 a0_0, .string a0_1, .slice A0_2 l0_2.length c0_2, .slice A0_3 l0_3.length c0_3, .int .i64 a0_4]) (t := 26) ?hr ?_; (case hd => rfl); (case hg => rfl); (case hr => first | (go_simp; done) | (go_simp; rfl)); intro gb106 hg w29 hbox hb; have n0_ := Aside0.mk (below_step (qdb35_ HB.out) hb); have n1_ := Aside0.mk (hbox); have n2_ := Aside0.mk ((by rw [hg]; exact (below_size (qdb35_ HB.out)) : w.heap.size ≤ gb106)); have n3_ := Aside0.mk ((by rw [hg]; exact (below_size (qdb35_ HB.out)) : w.heap.size ≤ gb106)); clear HB; have HB := n0_; have BK106 := n1_; have GW106 := n2_; have GE106 := n3_; clear n0_ n1_ n2_ n3_; clear hb hbox hg) | ((with_reducible refine gate_dst (N := 3) rfl ?_); refine box_event ?hg (N := 3) ?hd (cs := #[.int .i64 a1_0, .string a1_1, .slice A1_2 l1_2.length c1_2, .slice A1_3 l1_3.length c1_3, .int .i64 a1_4]) (t := 26) ?hr ?_; (case hd => rfl); (case hg => rfl); (case hr => first | (go_simp; done) | (go_simp; rfl)); intro gb107 hg w30 hbox hb; have n0_ := Aside0.mk (blk_below (g := gb106) (o := .cells #[.int .i64 a0_0, .string a0_1, .slice A0_2 l0_2.length c0_2, .slice A0_3 l0_3.length c0_3, .int .i64 a0_4] 26 (0, 0)) (q1466_ BK106.out) hb); have n1_ := Aside0.mk (below_step (qed14_ HB.out GE106.out) hb); have n2_ := Aside0.mk (hbox); have n3_ := Aside0.mk ((by rw [hg]; exact (below_size (qed14_ HB.out GE106.out)) : w.heap.size ≤ gb107)); have n4_ := Aside0.mk ((by rw [hg]; exact (below_size (qed14_ HB.out GE106.out)) : w.heap.size ≤ gb107)); have n5_ := Aside0.mk ((by rw [hg]; exact Nat.ne_of_lt (blk_lt (g := gb106) (o := .cells #[.int .i64 a0_0, .string a0_1, .slice A0_2 l0_2.length c0_2, .slice A0_3 l0_3.length c0_3, .int .i64 a0_4] 26 (0, 0)) (q1466_ BK106.out)) : gb106 ≠ gb107)); have n6_ := Aside0.mk ((by rw [hg]; exact Nat.ne_of_gt (blk_lt (g := gb106) (o := .cells #[.int .i64 a0_0, .string a0_1, .slice A0_2 l0_2.length c0_2, .slice A0_3 l0_3.length c0_3, .int .i64 a0_4] 26 (0, 0)) (q1466_ BK106.out)) : gb107 ≠ gb106)); clear BK106; clear HB; have BK106 := n0_; have HB := n1_; have BK107 := n2_; have GW107 := n3_; have GE107 := n4_; have NB106_107 := n5_; have NB107_106 := n6_; clear n0_ n1_ n2_ n3_ n4_ n5_ n6_; clear hb hbox hg; have hnb31 := NB106_107.out; have hnc31 := NB107_106.out; have hcz32_0 : w30.cell? ⟨gb106, 0, none⟩ = some (.int .i64 a0_0) := (blk_cell BK106.out 0).trans rfl; have hcz32_1 : w30.cell? ⟨gb106, 1, none⟩ = some (.string a0_1) := (blk_cell BK106.out 1).trans rfl; have hcz32_2 : w30.cell? ⟨gb106, 2, none⟩ = some (.slice A0_2 l0_2.length c0_2) := (blk_cell BK106.out 2).trans rfl; have hcz32_3 : w30.cell? ⟨gb106, 3, none⟩ = some (.slice A0_3 l0_3.length c0_3) := (blk_cell BK106.out 3).trans rfl; have hcz32_4 : w30.cell? ⟨gb106, 4, none⟩ = some (.int .i64 a0_4) := (blk_cell BK106.out 4).trans rfl; have hfz32_0 := blk_frozen BK106.out 0; have hfz32_1 := blk_frozen BK106.out 1; have hfz32_2 := blk_frozen BK106.out 2; have hfz32_3 := blk_frozen BK106.out 3; have hfz32_4 := blk_frozen BK106.out 4; have hcz33_0 : w30.cell? ⟨gb107, 0, none⟩ = some (.int .i64 a1_0) := (blk_cell BK107.out 0).trans rfl; have hcz33_1 : w30.cell? ⟨gb107, 1, none⟩ = some (.string a1_1) := (blk_cell BK107.out 1).trans rfl; have hcz33_2 : w30.cell? ⟨gb107, 2, none⟩ = some (.slice A1_2 l1_2.length c1_2) := (blk_cell BK107.out 2).trans rfl; have hcz33_3 : w30.cell? ⟨gb107, 3, none⟩ = some (.slice A1_3 l1_3.length c1_3) := (blk_cell BK107.out 3).trans rfl; have hcz33_4 : w30.cell? ⟨gb107, 4, none⟩ = some (.int .i64 a1_4) := (blk_cell BK107.out 4).trans rfl; have hfz33_0 := blk_frozen BK107.out 0; have hfz33_1 := blk_frozen BK107.out 1; have hfz33_2 := blk_frozen BK107.out 2; have hfz33_3 := blk_frozen BK107.out 3; have hfz33_4 := blk_frozen BK107.out 4))
  go_ret
  exact ⟨by first | rfl | (simp [errW_none, errW_some] <;> rfl) | (simp [*, errW_none, errW_some] <;> rfl), (q8f57_ HB.out GE106.out GE107.out)⟩

/-! ### item_Copy: function 19 -/
def item_Copy.f (a0_0 : Int) (a0_1 : ByteArray) (l0_2 : List (S29)) (l0_3 : List ByteArray) (a0_4 : Int) : Option (Int × ByteArray × (List (S29)) × List ByteArray × Int) := (api_Field_28.f l0_2).bind fun t112 => ((slices_Clone_string_string.f l0_3).bind fun t115 => (some (a0_0, a0_1, t112, t115, a0_4)))
def item_Copy.T1 : Bool × List (List Nat × List Nat) := (true, [([], []), ([0], [0]), ([1], [1]), ([], []), ([3], [3]), ([4, 2], [4]), ([0, 1, 2, 3, 4], []), ([6, 2, 5, 0, 1, 2, 3, 4], [2, 6]), ([0, 1, 2, 3, 4, 5, 6, 7], []), ([8, 5, 7, 0, 1, 2, 3, 4, 5, 6, 7], [5, 8])])
def item_Copy.B1 : List Nat := [0, 1, 3, 0, 8, 31, 31, 127, 255, 511]
theorem item_Copy.tab1 : rtab .any (opsOf Try.f19 1) = item_Copy.T1 := by kernel_rfl
theorem item_Copy.bits1 : waitsOk item_Copy.T1.2 item_Copy.B1 = true := by kernel_rfl
set_option maxHeartbeats 8000000 in
set_option maxRecDepth 100000 in
theorem item_Copy.calls (a0_0 : Int) (a0_1 : ByteArray) (A0_2 : Option Addr) (c0_2 : Nat) (l0_2 : List (S29)) (A0_3 : Option Addr) (c0_3 : Nat) (l0_3 : List ByteArray) (a0_4 : Int) (r1 : Int) (r2 : ByteArray) (r3 : List (S29)) (r4 : List ByteArray) (r5 : Int) (w : World) (hr0_2 : Kd.C k29 w A0_2 l0_2.length l0_2) (hc0_2 : l0_2.length ≤ c0_2) (hr0_3 : Kd.C Kd.string w A0_3 l0_3.length l0_3) (hc0_3 : l0_3.length ≤ c0_3) (h : item_Copy.f a0_0 a0_1 l0_2 l0_3 a0_4 = some (r1, r2, r3, r4, r5)) :
 Calls Try.prog 19 #[.agg #[.int .i64 a0_0, .string a0_1, .slice A0_2 l0_2.length c0_2, .slice A0_3 l0_3.length c0_3, .int .i64 a0_4]] w fun e w' => ∃ v2_ v3_ : Value, e = .returned (.agg #[.int .i64 r1, .string r2, v2_, v3_, .int .i64 r5]) ∧ Kd.R k29 29 w' w.heap.size (fun _ => True) v2_ r3 ∧ Kd.R Kd.string 9 w' w.heap.size (fun _ => True) v3_ r4 ∧ Below w.heap.size w w' := by
 have hu26 := Try.underlying26
 have HR0_2 := Aside0.mk hr0_2
 have HC0_2 := Aside0.mk hc0_2
 clear hr0_2 hc0_2
 have HR0_3 := Aside0.mk hr0_3
 have HC0_3 := Aside0.mk hc0_3
 clear hr0_3 hc0_3
 have HB := Aside0.mk (Below.refl w.heap.size w)
 have H : ((api_Field_28.f l0_2).bind fun t112 => ((slices_Clone_string_string.f l0_3).bind fun t115 => (some (a0_0, a0_1, t112, t115, a0_4)))) = some (r1, r2, r3, r4, r5) := h
 clear h
 replace H := Option.bind_eq_some_iff.mp H
 obtain ⟨t112, A20, H⟩ := H
 replace H : ((slices_Clone_string_string.f l0_3).bind fun t115 => (some (a0_0, a0_1, t112, t115, a0_4))) = some (r1, r2, r3, r4, r5) := H
 have A2 := Aside0.mk A20
 clear A20
 replace H := Option.bind_eq_some_iff.mp H
 obtain ⟨t115, A30, H⟩ := H
 replace H : (some (a0_0, a0_1, t112, t115, a0_4)) = some (r1, r2, r3, r4, r5) := H
 have A3 := Aside0.mk A30
 clear A30
 simp only [Option.some.injEq, Prod.mk.injEq] at H
 obtain ⟨rfl, rfl, rfl, rfl, rfl⟩ := H
 go_enter Try.func19, Try.ntmps19
 try go_wp2_with (first | ((with_reducible refine gate_dst (N := 1) rfl ?_); refine box_event ?hg (N := 1) ?hd (cs := #[.int .i64 a0_0, .string a0_1, .slice A0_2 l0_2.length c0_2, .slice A0_3 l0_3.length c0_3, .int .i64 a0_4]) (t := 26) ?hr ?_; (case hd => rfl); (case hg => rfl); (case hr => first | (go_simp; done) | (go_simp; rfl)); intro gb110 hg w4 hbox hb; have n0_ := Aside0.mk (below_step (qdb35_ HB.out) hb); have n1_ := Aside0.mk (hbox); have n2_ := Aside0.mk ((by rw [hg]; exact (below_size (qdb35_ HB.out)) : w.heap.size ≤ gb110)); have n3_ := Aside0.mk ((by rw [hg]; exact (below_size (qdb35_ HB.out)) : w.heap.size ≤ gb110)); clear HB; have HB := n0_; have BK110 := n1_; have GW110 := n2_; have GE110 := n3_; clear n0_ n1_ n2_ n3_; clear hb hbox hg) | ((with_reducible refine gate_dst (N := 2) rfl ?_); refine box_event ?hg (N := 2) ?hd (cs := #[.int .i64 0, .string (⟨#[]⟩ : ByteArray), .slice none 0 0, .slice none 0 0, .int .i64 0]) (t := 26) ?hr ?_; (case hd => rfl); (case hg => rfl); (case hr => first | (go_simp; done) | (go_simp; rfl)); intro gb111 hg w5 hbox hb; have n0_ := Aside0.mk (blk_below (g := gb110) (o := .cells #[.int .i64 a0_0, .string a0_1, .slice A0_2 l0_2.length c0_2, .slice A0_3 l0_3.length c0_3, .int .i64 a0_4] 26 (0, 0)) (q1466_ BK110.out) hb); have n1_ := Aside0.mk (below_step (qed14_ HB.out GE110.out) hb); have n2_ := Aside0.mk (hbox); have n3_ := Aside0.mk ((by rw [hg]; exact (below_size (qed14_ HB.out GE110.out)) : w.heap.size ≤ gb111)); have n4_ := Aside0.mk ((by rw [hg]; exact (below_size (qed14_ HB.out GE110.out)) : w.heap.size ≤ gb111)); have n5_ := Aside0.mk ((by rw [hg]; exact Nat.ne_of_lt (blk_lt (g := gb110) (o := .cells #[.int .i64 a0_0, .string a0_1, .slice A0_2 l0_2.length c0_2, .slice A0_3 l0_3.length c0_3, .int .i64 a0_4] 26 (0, 0)) (q1466_ BK110.out)) : gb110 ≠ gb111)); have n6_ := Aside0.mk ((by rw [hg]; exact Nat.ne_of_gt (blk_lt (g := gb110) (o := .cells #[.int .i64 a0_0, .string a0_1, .slice A0_2 l0_2.length c0_2, .slice A0_3 l0_3.length c0_3, .int .i64 a0_4] 26 (0, 0)) (q1466_ BK110.out)) : gb111 ≠ gb110)); clear BK110; clear HB; have BK110 := n0_; have HB := n1_; have BK111 := n2_; have GW111 := n3_; have GE111 := n4_; have NB110_111 := n5_; have NB111_110 := n6_; clear n0_ n1_ n2_ n3_ n4_ n5_ n6_; clear hb hbox hg))
 have n0_ := Aside0.mk (blk_drew BK110.out)
 have n1_ := Aside0.mk (blk_drew BK111.out)
 have n2_ := Aside0.mk (below_drew1 HB.out)
 clear BK110
 clear BK111
 clear HB
 have BK110 := n0_
 have BK111 := n1_
 have HB := n2_
 clear n0_ n1_ n2_
 refine start_ (n := 10) (S := fun w' => w'.cell? ⟨gb110, 0, none⟩ = some (.int .i64 a0_0) ∧ w'.cell? ⟨gb110, 1, none⟩ = some (.string a0_1) ∧ w'.cell? ⟨gb110, 2, none⟩ = some (.slice A0_2 l0_2.length c0_2) ∧ w'.cell? ⟨gb110, 3, none⟩ = some (.slice A0_3 l0_3.length c0_3) ∧ w'.cell? ⟨gb110, 4, none⟩ = some (.int .i64 a0_4)) (ds := [7, 9]) (ml_ 10 0) (by kernel_rfl) rfl rfl ⟨(blk_cell BK110.out 0).trans rfl, (blk_cell BK110.out 1).trans rfl, (blk_cell BK110.out 2).trans rfl, (blk_cell BK110.out 3).trans rfl, (blk_cell BK110.out 4).trans rfl⟩ (fun hHeld => ?_); refine with_tabW item_Copy.tab1 item_Copy.bits1 (fun HT_ HW_ => ?_)
 generalize w5.drew = w6 at BK110 BK111 HB hHeld ⊢
 refine pA_ 0 3 (ml_ 10 1) rfl rfl HT_.out ?_
 refine pA_ 3 6 (ml_ 10 9) rfl rfl HT_.out ?_
 refine t5_ 1 4 (ml_ 10 11) rfl rfl HT_.out HW_.out hHeld ?_
 refine t5_ 4 7 (ml_ 10 27) rfl rfl HT_.out HW_.out hHeld ?_
 refine one_ (i := 2) (N := some 5) (ml_ 10 31) rfl rfl (one_of HT_.out (by kernel_rfl)) (by decide) (fun K hK => ?_)
 refine goes_ Try.func28 (by kernel_rfl) rfl #[.slice A0_2 l0_2.length c0_2] (by rfl) rfl rfl qM_ ?_
 with_reducible refine (api_Field_28.calls _ _ l0_2 t112 _ ?side1 ?side2 A2.out).mono ?_
 (case side1 => exact qC_ ((Kd.C_below HR0_2.out HB.out)))
 (case side2 => exact HC0_2.out)
 rintro e w7 ⟨v113, rfl, ho0, hb⟩
 refine ⟨_, rfl, ?_⟩
 have n0_ := Aside0.mk (Kd.R_lower ho0 (below_size (q8f57_ HB.out GE110.out GE111.out)))
 have n1_ := Aside0.mk (blk_below (g := gb110) (o := .cells #[.int .i64 a0_0, .string a0_1, .slice A0_2 l0_2.length c0_2, .slice A0_3 l0_3.length c0_3, .int .i64 a0_4] 26 (0, 0)) (q1466_ BK110.out) hb)
 have n2_ := Aside0.mk (blk_below (g := gb111) (o := .cells #[.int .i64 0, .string (⟨#[]⟩ : ByteArray), .slice none 0 0, .slice none 0 0, .int .i64 0] 26 (0, 0)) (q1466_ BK111.out) hb)
 have n3_ := Aside0.mk (below_step (q8f57_ HB.out GE110.out GE111.out) hb)
 clear BK110
 clear BK111
 clear HB
 have HO114 := n0_
 have BK110 := n1_
 have BK111 := n2_
 have HB := n3_
 clear n0_ n1_ n2_ n3_
 (try clear hb)
 (try clear hb2)
 (try clear hk)
 (try clear hi)
 (try clear ho0)
 refine hK.out _ _ ⟨(blk_cell BK110.out 0).trans rfl, (blk_cell BK110.out 1).trans rfl, (blk_cell BK110.out 2).trans rfl, (blk_cell BK110.out 3).trans rfl, (blk_cell BK110.out 4).trans rfl⟩ (fun hHeld => ?_)
 clear hK K
 refine nA_ 5 ?_
 refine pA_ 6 9 (ml_ 10 95) rfl rfl HT_.out ?_
 refine one_ (i := 5) (N := some 8) (ml_ 10 127) rfl rfl (one_of HT_.out (by kernel_rfl)) (by decide) (fun K hK => ?_)
 refine goes_ Try.func29 (by kernel_rfl) rfl #[.slice A0_3 l0_3.length c0_3] (by rfl) rfl rfl qM_ ?_
 with_reducible refine (slices_Clone_string_string.calls _ _ l0_3 t115 _ ?side1 ?side2 A3.out).mono ?_
 (case side1 => exact qC_ ((Kd.C_below HR0_3.out HB.out)))
 (case side2 => exact HC0_3.out)
 rintro e w8 ⟨v116, rfl, ho0, hb⟩
 refine ⟨_, rfl, ?_⟩
 have n0_ := Aside0.mk (Kd.R_below (q8524_ HO114.out) hb)
 have n1_ := Aside0.mk (Kd.R_lower ho0 (below_size (q8f57_ HB.out GE110.out GE111.out)))
 have n2_ := Aside0.mk (blk_below (g := gb110) (o := .cells #[.int .i64 a0_0, .string a0_1, .slice A0_2 l0_2.length c0_2, .slice A0_3 l0_3.length c0_3, .int .i64 a0_4] 26 (0, 0)) (q1466_ BK110.out) hb)
 have n3_ := Aside0.mk (blk_below (g := gb111) (o := .cells #[.int .i64 0, .string (⟨#[]⟩ : ByteArray), .slice none 0 0, .slice none 0 0, .int .i64 0] 26 (0, 0)) (q1466_ BK111.out) hb)
 have n4_ := Aside0.mk (below_step (q8f57_ HB.out GE110.out GE111.out) hb)
 clear HO114
 clear BK110
 clear BK111
 clear HB
 have HO114 := n0_
 have HO117 := n1_
 have BK110 := n2_
 have BK111 := n3_
 have HB := n4_
 clear n0_ n1_ n2_ n3_ n4_
 (try clear hb)
 (try clear hb2)
 (try clear hk)
 (try clear hi)
 (try clear ho0)
 obtain ⟨Ao9, co9, eo9⟩ := Kd.R_slice HO114.out
 (first | subst eo9 | (injection eo9 with f1_ f2_ f3_; have f4_ := f1_.symm; have f5_ := f3_.symm; clear f1_ f2_ f3_; subst f4_; subst f5_))
 obtain ⟨Ao11, co11, eo11⟩ := Kd.R_slice HO117.out
 (first | subst eo11 | (injection eo11 with f1_ f2_ f3_; have f4_ := f1_.symm; have f5_ := f3_.symm; clear f1_ f2_ f3_; subst f4_; subst f5_))
 refine hK.out _ _ ⟨(blk_cell BK110.out 0).trans rfl, (blk_cell BK110.out 1).trans rfl, (blk_cell BK110.out 2).trans rfl, (blk_cell BK110.out 3).trans rfl, (blk_cell BK110.out 4).trans rfl⟩ (fun hHeld => ?_)
 clear hK K
 refine nA_ 8 ?_
 refine last_ (i := 7) (N := none) (ml_ 10 255) rfl rfl (one_of HT_.out (by kernel_rfl)) (by decide) (fun K hK => ?_)
 have hs10 : w8.cell? ⟨gb110, 2, none⟩ = some (.slice A0_2 l0_2.length c0_2) := (blk_cell BK110.out 2).trans rfl
 have hfs10 := blk_frozen BK110.out 2
 have hns10_1 := NB111_110.out
 have hms10_1 := NB110_111.out
 refine skip_ (w1 := ?_) (by rfl) rfl ?_ ?_
 rotate_left
 ·go_simp
  rfl
 refine hK.out _ _ ?_
 clear hK K
 refine pA_ 8 10 (ml_ 10 511) rfl rfl HT_.out ?_
 refine last_ (i := 9) (N := none) (ml_ 10 1023) rfl rfl (one_of HT_.out (by kernel_rfl)) (by decide) (fun K hK => ?_)
 have hs12 : w8.cell? ⟨gb110, 3, none⟩ = some (.slice A0_3 l0_3.length c0_3) := (blk_cell BK110.out 3).trans rfl
 have hfs12 := blk_frozen BK110.out 3
 have hns12_1 := NB111_110.out
 have hms12_1 := NB110_111.out
 refine skip_ (w1 := ?_) (by rfl) rfl ?_ ?_
 rotate_left
 ·go_simp
  rfl
 refine hK.out _ _ ?_
 clear hK K
 refine done_ (done_of HT_.out (by kernel_rfl)) ?_
 have hnb13 := NB110_111.out
 have hnc13 := NB111_110.out
 have hcz14_0 : w8.cell? ⟨gb110, 0, none⟩ = some (.int .i64 a0_0) := (blk_cell BK110.out 0).trans rfl
 have hcz14_1 : w8.cell? ⟨gb110, 1, none⟩ = some (.string a0_1) := (blk_cell BK110.out 1).trans rfl
 have hcz14_2 : w8.cell? ⟨gb110, 2, none⟩ = some (.slice A0_2 l0_2.length c0_2) := (blk_cell BK110.out 2).trans rfl
 have hcz14_3 : w8.cell? ⟨gb110, 3, none⟩ = some (.slice A0_3 l0_3.length c0_3) := (blk_cell BK110.out 3).trans rfl
 have hcz14_4 : w8.cell? ⟨gb110, 4, none⟩ = some (.int .i64 a0_4) := (blk_cell BK110.out 4).trans rfl
 have hfz14_0 := blk_frozen BK110.out 0
 have hfz14_1 := blk_frozen BK110.out 1
 have hfz14_2 := blk_frozen BK110.out 2
 have hfz14_3 := blk_frozen BK110.out 3
 have hfz14_4 := blk_frozen BK110.out 4
 have hcz15_0 : w8.cell? ⟨gb111, 0, none⟩ = some (.int .i64 0) := (blk_cell BK111.out 0).trans rfl
 have hcz15_1 : w8.cell? ⟨gb111, 1, none⟩ = some (.string (⟨#[]⟩ : ByteArray)) := (blk_cell BK111.out 1).trans rfl
 have hcz15_2 : w8.cell? ⟨gb111, 2, none⟩ = some (.slice none 0 0) := (blk_cell BK111.out 2).trans rfl
 have hcz15_3 : w8.cell? ⟨gb111, 3, none⟩ = some (.slice none 0 0) := (blk_cell BK111.out 3).trans rfl
 have hcz15_4 : w8.cell? ⟨gb111, 4, none⟩ = some (.int .i64 0) := (blk_cell BK111.out 4).trans rfl
 have hfz15_0 := blk_frozen BK111.out 0
 have hfz15_1 := blk_frozen BK111.out 1
 have hfz15_2 := blk_frozen BK111.out 2
 have hfz15_3 := blk_frozen BK111.out 3
 have hfz15_4 := blk_frozen BK111.out 4
 try go_wp2
 refine bodyPost_ret (results_cell_row rfl _ _ gb111 26 #[.int .i64 a0_0, .string a0_1, .slice Ao9 t112.length co9, .slice Ao11 t115.length co11, .int .i64 a0_4] (0, 0) _ rfl (by (with_reducible repeat (first | refine blk_drewN ?_ _ | refine blk_drew ?_ | refine blk_alloc ?_ _)); refine blk_put (cs := #[.int .i64 a0_0, .string a0_1, .slice Ao9 t112.length co9, .slice Ao11 t115.length co11, .int .i64 0]) ?_ 4 _ rfl; (with_reducible repeat (first | refine blk_drewN ?_ _ | refine blk_drew ?_ | refine blk_alloc ?_ _)); refine blk_put (cs := #[.int .i64 a0_0, .string a0_1, .slice Ao9 t112.length co9, .slice none 0 0, .int .i64 0]) ?_ 3 _ rfl; (with_reducible repeat (first | refine blk_drewN ?_ _ | refine blk_drew ?_ | refine blk_alloc ?_ _)); refine blk_put (cs := #[.int .i64 a0_0, .string a0_1, .slice none 0 0, .slice none 0 0, .int .i64 0]) ?_ 2 _ rfl; (with_reducible repeat (first | refine blk_drewN ?_ _ | refine blk_drew ?_ | refine blk_alloc ?_ _)); refine blk_put (cs := #[.int .i64 a0_0, .string (⟨#[]⟩ : ByteArray), .slice none 0 0, .slice none 0 0, .int .i64 0]) ?_ 1 _ rfl; (with_reducible repeat (first | refine blk_drewN ?_ _ | refine blk_drew ?_ | refine blk_alloc ?_ _)); refine blk_put (cs := #[.int .i64 0, .string (⟨#[]⟩ : ByteArray), .slice none 0 0, .slice none 0 0, .int .i64 0]) ?_ 0 _ rfl; (with_reducible repeat (first | refine blk_drewN ?_ _ | refine blk_drew ?_ | refine blk_alloc ?_ _)); refine blk_far ?_ NB111_110.out _; (with_reducible repeat (first | refine blk_drewN ?_ _ | refine blk_drew ?_ | refine blk_alloc ?_ _)); refine blk_far ?_ NB111_110.out _; (with_reducible repeat (first | refine blk_drewN ?_ _ | refine blk_drew ?_ | refine blk_alloc ?_ _)); exact BK111.out) Try.underlying26 rfl (by kernel_rfl)) rfl ?_
 exact ⟨_, _, by first | rfl | (simp [errW_none, errW_some] <;> rfl) | (simp [*, errW_none, errW_some] <;> rfl), by (with_reducible repeat (first | apply Kd.R_alloc | apply Kd.R_drewN | apply Kd.R_drew)); exact Kd.R_mono (Kd.R_far (p := ⟨gb111, 4, none⟩) (Kd.R_far (p := ⟨gb111, 3, none⟩) (Kd.R_far (p := ⟨gb111, 2, none⟩) (Kd.R_far (p := ⟨gb111, 1, none⟩) (Kd.R_far (p := ⟨gb111, 0, none⟩) (Kd.R_far (p := ⟨gb110, 3, none⟩) (Kd.R_far (p := ⟨gb110, 2, none⟩) (Kd.R_types (Kd.R_types HO114.out BK110.out (by decide)) BK111.out (by decide)) (fun _ hk => hk.1.2) (.slice Ao9 t112.length co9)) (fun _ hk => hk.1.2) (.slice Ao11 t115.length co11)) (fun _ hk => hk.2) (.int .i64 a0_0)) (fun _ hk => hk.2) (.string a0_1)) (fun _ hk => hk.2) (.slice Ao9 t112.length co9)) (fun _ hk => hk.2) (.slice Ao11 t115.length co11)) (fun _ hk => hk.2) (.int .i64 a0_4)) (fun _ hk => trivial), by (with_reducible repeat (first | apply Kd.R_alloc | apply Kd.R_drewN | apply Kd.R_drew)); exact Kd.R_mono (Kd.R_far (p := ⟨gb111, 4, none⟩) (Kd.R_far (p := ⟨gb111, 3, none⟩) (Kd.R_far (p := ⟨gb111, 2, none⟩) (Kd.R_far (p := ⟨gb111, 1, none⟩) (Kd.R_far (p := ⟨gb111, 0, none⟩) (Kd.R_far (p := ⟨gb110, 3, none⟩) (Kd.R_far (p := ⟨gb110, 2, none⟩) (Kd.R_types (Kd.R_types HO117.out BK110.out (by decide)) BK111.out (by decide)) (fun _ hk => hk.1.2) (.slice Ao9 t112.length co9)) (fun _ hk => hk.1.2) (.slice Ao11 t115.length co11)) (fun _ hk => hk.2) (.int .i64 a0_0)) (fun _ hk => hk.2) (.string a0_1)) (fun _ hk => hk.2) (.slice Ao9 t112.length co9)) (fun _ hk => hk.2) (.slice Ao11 t115.length co11)) (fun _ hk => hk.2) (.int .i64 a0_4)) (fun _ hk => trivial), (q8f57_ HB.out GE110.out GE111.out)⟩

end Go.Proofs.Ytbmimcpllpgcaaa.G
