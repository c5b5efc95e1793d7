/- What functions of the translation come to, and their calls' proofs; by a program of mine over the kit's print, with contracts given by hand beside. Conditions: where a plain function tells none, nothing is said. -/
import Derived.Test.YtbmimcpllpgcaaaG0
namespace Go.Proofs.Ytbmimcpllpgcaaa.G
open Go.RowKit Go.Proofs.YtbmimcpllpgcaaaW.PrintWords Go.Proofs.YtbmimcpllpgcaaaW.PrintLast Go.Proofs.YtbmimcpllpgcaaaW.PrintMore
attribute [local go_sem] max2_int min2_int max_two min_two max_three min_three max_four min_four   -- for this text's walks alone
set_option linter.unusedVariables false
set_option linter.unusedSimpArgs false

/-! ### caravanref5_bare: function 23 -/
def caravanref5_bare.f (a0_0 : Int) (a0_1 : ByteArray) (l0_2 : List (S29)) (l0_3 : List ByteArray) (a0_4 : Int) : Option (Bool) := if a0_0 = 1 then (if (l0_2.length : Int) = 0 then (some ((l0_3.length : Int) == 0)) else (some false)) else (if a0_0 = 2 then (if a0_1.toList = ([] : List UInt8) then (if (l0_3.length : Int) = 0 then (some (decide ((l0_2.length : Int) > 0))) else (some false)) else (some false)) else (if a0_0 = 3 then (if a0_1.toList = ([] : List UInt8) then (if (l0_2.length : Int) = 0 then (some (decide ((l0_3.length : Int) > 0))) else (some false)) else (some false)) else (if a0_0 = 4 then (if a0_1.toList = ([] : List UInt8) then (if (l0_2.length : Int) = 0 then (some (decide ((l0_3.length : Int) > 0))) else (some false)) else (some false)) else (some false))))
set_option maxHeartbeats 8000000 in
set_option maxRecDepth 100000 in
theorem caravanref5_bare.calls (a0_0 : Int) (a0_1 : ByteArray) (A0_2 : Option Addr) (c0_2 : Nat) (l0_2 : List (S29)) (A0_3 : Option Addr) (c0_3 : Nat) (l0_3 : List ByteArray) (a0_4 : Int) (r : Bool) (w : World) (hr0_2 : Kd.C k29 w A0_2 l0_2.length l0_2) (hc0_2 : l0_2.length ≤ c0_2) (hr0_3 : Kd.C Kd.string w A0_3 l0_3.length l0_3) (hc0_3 : l0_3.length ≤ c0_3) (h : caravanref5_bare.f a0_0 a0_1 l0_2 l0_3 a0_4 = some r) :
 Calls Try.prog 23 #[.agg #[.int .i64 a0_0, .string a0_1, .slice A0_2 l0_2.length c0_2, .slice A0_3 l0_3.length c0_3, .int .i64 a0_4]] w fun e w' => e = .returned (.bool r) ∧ Below w.heap.size w w' := by
 have hu26 := Try.underlying26
 have HR0_2 := Aside0.mk hr0_2
 have HC0_2 := Aside0.mk hc0_2
 clear hr0_2 hc0_2
 have HR0_3 := Aside0.mk hr0_3
 have HC0_3 := Aside0.mk hc0_3
 clear hr0_3 hc0_3
 have HB := Aside0.mk (Below.refl w.heap.size w)
 have H : (if a0_0 = 1 then (if (l0_2.length : Int) = 0 then (some ((l0_3.length : Int) == 0)) else (some false)) else (if a0_0 = 2 then (if a0_1.toList = ([] : List UInt8) then (if (l0_3.length : Int) = 0 then (some (decide ((l0_2.length : Int) > 0))) else (some false)) else (some false)) else (if a0_0 = 3 then (if a0_1.toList = ([] : List UInt8) then (if (l0_2.length : Int) = 0 then (some (decide ((l0_3.length : Int) > 0))) else (some false)) else (some false)) else (if a0_0 = 4 then (if a0_1.toList = ([] : List UInt8) then (if (l0_2.length : Int) = 0 then (some (decide ((l0_3.length : Int) > 0))) else (some false)) else (some false)) else (some false))))) = some r := h
 clear h
 by_cases c2 : a0_0 = 1
 ·rw [if_pos c2] at H
  have c2b0 : (a0_0 == 1) = true := beq_iff_eq.mpr c2
  have c2b1 : (a0_0 != 1) = false := bne_eq_false_iff_eq.mpr c2
  clear c2
  by_cases c3 : (l0_2.length : Int) = 0
  ·rw [if_pos c3] at H
   have c3b0 : ((l0_2.length : Int) == 0) = true := beq_iff_eq.mpr c3
   have c3b1 : ((l0_2.length : Int) != 0) = false := bne_eq_false_iff_eq.mpr c3
   clear c3
   obtain rfl := Option.some.inj H
   go_enter Try.func23, Try.ntmps23
   go_wp2_with (first | ((with_reducible refine gate_dst (N := 1) rfl ?_); (try (refine gate_guard (by rfl) ?_; dsimp only)); refine box_event ?hg (N := 1) ?hd (cs := #[.int .i64 a0_0, .string a0_1, .slice A0_2 l0_2.length c0_2, .slice A0_3 l0_3.length c0_3, .int .i64 a0_4]) (t := 26) ?hr ?_; (case hd => rfl); (case hg => rfl); (case hr => first | (go_simp; done) | (go_simp; rfl)); intro gb357 hg w4 hbox hb; have n0_ := Aside0.mk (below_step (q2_ HB.out) hb); have n1_ := Aside0.mk (hbox); have n2_ := Aside0.mk ((by rw [hg]; exact (below_size (q2_ HB.out)) : w.heap.size ≤ gb357)); have n3_ := Aside0.mk ((by rw [hg]; exact (below_size (q2_ HB.out)) : w.heap.size ≤ gb357)); clear HB; have HB := n0_; have BK357 := n1_; have GW357 := n2_; have GE357 := n3_; clear n0_ n1_ n2_ n3_; clear hb hbox hg; have hcz5_0 : w4.cell? ⟨gb357, 0, none⟩ = some (.int .i64 a0_0) := (blk_cell BK357.out 0).trans rfl; have hcz5_1 : w4.cell? ⟨gb357, 1, none⟩ = some (.string a0_1) := (blk_cell BK357.out 1).trans rfl; have hcz5_2 : w4.cell? ⟨gb357, 2, none⟩ = some (.slice A0_2 l0_2.length c0_2) := (blk_cell BK357.out 2).trans rfl; have hcz5_3 : w4.cell? ⟨gb357, 3, none⟩ = some (.slice A0_3 l0_3.length c0_3) := (blk_cell BK357.out 3).trans rfl; have hcz5_4 : w4.cell? ⟨gb357, 4, none⟩ = some (.int .i64 a0_4) := (blk_cell BK357.out 4).trans rfl; have hfz5_0 := blk_frozen BK357.out 0; have hfz5_1 := blk_frozen BK357.out 1; have hfz5_2 := blk_frozen BK357.out 2; have hfz5_3 := blk_frozen BK357.out 3; have hfz5_4 := blk_frozen BK357.out 4))
   go_ret
   exact ⟨by first | rfl | (simp [errW_none, errW_some] <;> rfl) | (simp [*, errW_none, errW_some] <;> rfl), (q4_ HB.out GE357.out)⟩
  ·rw [if_neg c3] at H
   have c3b0 : ((l0_2.length : Int) == 0) = false := beq_eq_false_iff_ne.mpr c3
   have c3b1 : ((l0_2.length : Int) != 0) = true := bne_iff_ne.mpr c3
   have c3b2 : ¬ (l0_2 = []) := fun h_ => c3 (by rw [h_]; rfl)
   obtain rfl := Option.some.inj H
   go_enter Try.func23, Try.ntmps23
   go_wp2_with (first | ((with_reducible refine gate_dst (N := 1) rfl ?_); (try (refine gate_guard (by rfl) ?_; dsimp only)); refine box_event ?hg (N := 1) ?hd (cs := #[.int .i64 a0_0, .string a0_1, .slice A0_2 l0_2.length c0_2, .slice A0_3 l0_3.length c0_3, .int .i64 a0_4]) (t := 26) ?hr ?_; (case hd => rfl); (case hg => rfl); (case hr => first | (go_simp; done) | (go_simp; rfl)); intro gb357 hg w6 hbox hb; have n0_ := Aside0.mk (below_step (q2_ HB.out) hb); have n1_ := Aside0.mk (hbox); have n2_ := Aside0.mk ((by rw [hg]; exact (below_size (q2_ HB.out)) : w.heap.size ≤ gb357)); have n3_ := Aside0.mk ((by rw [hg]; exact (below_size (q2_ HB.out)) : w.heap.size ≤ gb357)); clear HB; have HB := n0_; have BK357 := n1_; have GW357 := n2_; have GE357 := n3_; clear n0_ n1_ n2_ n3_; clear hb hbox hg; have hcz7_0 : w6.cell? ⟨gb357, 0, none⟩ = some (.int .i64 a0_0) := (blk_cell BK357.out 0).trans rfl; have hcz7_1 : w6.cell? ⟨gb357, 1, none⟩ = some (.string a0_1) := (blk_cell BK357.out 1).trans rfl; have hcz7_2 : w6.cell? ⟨gb357, 2, none⟩ = some (.slice A0_2 l0_2.length c0_2) := (blk_cell BK357.out 2).trans rfl; have hcz7_3 : w6.cell? ⟨gb357, 3, none⟩ = some (.slice A0_3 l0_3.length c0_3) := (blk_cell BK357.out 3).trans rfl; have hcz7_4 : w6.cell? ⟨gb357, 4, none⟩ = some (.int .i64 a0_4) := (blk_cell BK357.out 4).trans rfl; have hfz7_0 := blk_frozen BK357.out 0; have hfz7_1 := blk_frozen BK357.out 1; have hfz7_2 := blk_frozen BK357.out 2; have hfz7_3 := blk_frozen BK357.out 3; have hfz7_4 := blk_frozen BK357.out 4))
   go_ret
   exact ⟨by first | rfl | (simp [errW_none, errW_some] <;> rfl) | (simp [*, errW_none, errW_some] <;> rfl), (q4_ HB.out GE357.out)⟩
 ·rw [if_neg c2] at H
  have c2b0 : (a0_0 == 1) = false := beq_eq_false_iff_ne.mpr c2
  have c2b1 : (a0_0 != 1) = true := bne_iff_ne.mpr c2
  by_cases c8 : a0_0 = 2
  ·rw [if_pos c8] at H
   have c8b0 : (a0_0 == 2) = true := beq_iff_eq.mpr c8
   have c8b1 : (a0_0 != 2) = false := bne_eq_false_iff_eq.mpr c8
   clear c8
   by_cases c9 : a0_1.toList = ([] : List UInt8)
   ·rw [if_pos c9] at H
    have c9b0 : (a0_1.toList == ([] : List UInt8)) = true := beq_iff_eq.mpr c9
    have c9b1 : (a0_1.toList != ([] : List UInt8)) = false := bne_eq_false_iff_eq.mpr c9
    clear c9
    by_cases c10 : (l0_3.length : Int) = 0
    ·rw [if_pos c10] at H
     have c10b0 : ((l0_3.length : Int) == 0) = true := beq_iff_eq.mpr c10
     have c10b1 : ((l0_3.length : Int) != 0) = false := bne_eq_false_iff_eq.mpr c10
     clear c10
     obtain rfl := Option.some.inj H
     go_enter Try.func23, Try.ntmps23
     go_wp2_with (first | ((with_reducible refine gate_dst (N := 1) rfl ?_); (try (refine gate_guard (by rfl) ?_; dsimp only)); refine box_event ?hg (N := 1) ?hd (cs := #[.int .i64 a0_0, .string a0_1, .slice A0_2 l0_2.length c0_2, .slice A0_3 l0_3.length c0_3, .int .i64 a0_4]) (t := 26) ?hr ?_; (case hd => rfl); (case hg => rfl); (case hr => first | (go_simp; done) | (go_simp; rfl)); intro gb357 hg w11 hbox hb; have n0_ := Aside0.mk (below_step (q2_ HB.out) hb); have n1_ := Aside0.mk (hbox); have n2_ := Aside0.mk ((by rw [hg]; exact (below_size (q2_ HB.out)) : w.heap.size ≤ gb357)); have n3_ := Aside0.mk ((by rw [hg]; exact (below_size (q2_ HB.out)) : w.heap.size ≤ gb357)); clear HB; have HB := n0_; have BK357 := n1_; have GW357 := n2_; have GE357 := n3_; clear n0_ n1_ n2_ n3_; clear hb hbox hg; have hcz12_0 : w11.cell? ⟨gb357, 0, none⟩ = some (.int .i64 a0_0) := (blk_cell BK357.out 0).trans rfl; have hcz12_1 : w11.cell? ⟨gb357, 1, none⟩ = some (.string a0_1) := (blk_cell BK357.out 1).trans rfl; have hcz12_2 : w11.cell? ⟨gb357, 2, none⟩ = some (.slice A0_2 l0_2.length c0_2) := (blk_cell BK357.out 2).trans rfl; have hcz12_3 : w11.cell? ⟨gb357, 3, none⟩ = some (.slice A0_3 l0_3.length c0_3) := (blk_cell BK357.out 3).trans rfl; have hcz12_4 : w11.cell? ⟨gb357, 4, none⟩ = some (.int .i64 a0_4) := (blk_cell BK357.out 4).trans rfl; have hfz12_0 := blk_frozen BK357.out 0; have hfz12_1 := blk_frozen BK357.out 1; have hfz12_2 := blk_frozen BK357.out 2; have hfz12_3 := blk_frozen BK357.out 3; have hfz12_4 := blk_frozen BK357.out 4))
     go_ret
     exact ⟨by first | rfl | (simp [errW_none, errW_some] <;> rfl) | (simp [*, errW_none, errW_some] <;> rfl), (q4_ HB.out GE357.out)⟩
    ·rw [if_neg c10] at H
     have c10b0 : ((l0_3.length : Int) == 0) = false := beq_eq_false_iff_ne.mpr c10
     have c10b1 : ((l0_3.length : Int) != 0) = true := bne_iff_ne.mpr c10
     have c10b2 : ¬ (l0_3 = []) := fun h_ => c10 (by rw [h_]; rfl)
     obtain rfl := Option.some.inj H
     go_enter Try.func23, Try.ntmps23
     go_wp2_with (first | ((with_reducible refine gate_dst (N := 1) rfl ?_); (try (refine gate_guard (by rfl) ?_; dsimp only)); refine box_event ?hg (N := 1) ?hd (cs := #[.int .i64 a0_0, .string a0_1, .slice A0_2 l0_2.length c0_2, .slice A0_3 l0_3.length c0_3, .int .i64 a0_4]) (t := 26) ?hr ?_; (case hd => rfl); (case hg => rfl); (case hr => first | (go_simp; done) | (go_simp; rfl)); intro gb357 hg w13 hbox hb; have n0_ := Aside0.mk (below_step (q2_ HB.out) hb); have n1_ := Aside0.mk (hbox); have n2_ := Aside0.mk ((by rw [hg]; exact (below_size (q2_ HB.out)) : w.heap.size ≤ gb357)); have n3_ := Aside0.mk ((by rw [hg]; exact (below_size (q2_ HB.out)) : w.heap.size ≤ gb357)); clear HB; have HB := n0_; have BK357 := n1_; have GW357 := n2_; have GE357 := n3_; clear n0_ n1_ n2_ n3_; clear hb hbox hg; have hcz14_0 : w13.cell? ⟨gb357, 0, none⟩ = some (.int .i64 a0_0) := (blk_cell BK357.out 0).trans rfl; have hcz14_1 : w13.cell? ⟨gb357, 1, none⟩ = some (.string a0_1) := (blk_cell BK357.out 1).trans rfl; have hcz14_2 : w13.cell? ⟨gb357, 2, none⟩ = some (.slice A0_2 l0_2.length c0_2) := (blk_cell BK357.out 2).trans rfl; have hcz14_3 : w13.cell? ⟨gb357, 3, none⟩ = some (.slice A0_3 l0_3.length c0_3) := (blk_cell BK357.out 3).trans rfl; have hcz14_4 : w13.cell? ⟨gb357, 4, none⟩ = some (.int .i64 a0_4) := (blk_cell BK357.out 4).trans rfl; have hfz14_0 := blk_frozen BK357.out 0; have hfz14_1 := blk_frozen BK357.out 1; have hfz14_2 := blk_frozen BK357.out 2; have hfz14_3 := blk_frozen BK357.out 3; have hfz14_4 := blk_frozen BK357.out 4))
     go_ret
     exact ⟨by first | rfl | (simp [errW_none, errW_some] <;> rfl) | (simp [*, errW_none, errW_some] <;> rfl), (q4_ HB.out GE357.out)⟩
   ·rw [if_neg c9] at H
    have c9b0 : (a0_1.toList == ([] : List UInt8)) = false := beq_eq_false_iff_ne.mpr c9
    have c9b1 : (a0_1.toList != ([] : List UInt8)) = true := bne_iff_ne.mpr c9
    obtain rfl := Option.some.inj H
    go_enter Try.func23, Try.ntmps23
    go_wp2_with (first | ((with_reducible refine gate_dst (N := 1) rfl ?_); (try (refine gate_guard (by rfl) ?_; dsimp only)); refine box_event ?hg (N := 1) ?hd (cs := #[.int .i64 a0_0, .string a0_1, .slice A0_2 l0_2.length c0_2, .slice A0_3 l0_3.length c0_3, .int .i64 a0_4]) (t := 26) ?hr ?_; (case hd => rfl); (case hg => rfl); (case hr => first | (go_simp; done) | (go_simp; rfl)); intro gb357 hg w15 hbox hb; have n0_ := Aside0.mk (below_step (q2_ HB.out) hb); have n1_ := Aside0.mk (hbox); have n2_ := Aside0.mk ((by rw [hg]; exact (below_size (q2_ HB.out)) : w.heap.size ≤ gb357)); have n3_ := Aside0.mk ((by rw [hg]; exact (below_size (q2_ HB.out)) : w.heap.size ≤ gb357)); clear HB; have HB := n0_; have BK357 := n1_; have GW357 := n2_; have GE357 := n3_; clear n0_ n1_ n2_ n3_; clear hb hbox hg; have hcz16_0 : w15.cell? ⟨gb357, 0, none⟩ = some (.int .i64 a0_0) := (blk_cell BK357.out 0).trans rfl; have hcz16_1 : w15.cell? ⟨gb357, 1, none⟩ = some (.string a0_1) := (blk_cell BK357.out 1).trans rfl; have hcz16_2 : w15.cell? ⟨gb357, 2, none⟩ = some (.slice A0_2 l0_2.length c0_2) := (blk_cell BK357.out 2).trans rfl; have hcz16_3 : w15.cell? ⟨gb357, 3, none⟩ = some (.slice A0_3 l0_3.length c0_3) := (blk_cell BK357.out 3).trans rfl; have hcz16_4 : w15.cell? ⟨gb357, 4, none⟩ = some (.int .i64 a0_4) := (blk_cell BK357.out 4).trans rfl; have hfz16_0 := blk_frozen BK357.out 0; have hfz16_1 := blk_frozen BK357.out 1; have hfz16_2 := blk_frozen BK357.out 2; have hfz16_3 := blk_frozen BK357.out 3; have hfz16_4 := blk_frozen BK357.out 4))
    go_ret
    exact ⟨by first | rfl | (simp [errW_none, errW_some] <;> rfl) | (simp [*, errW_none, errW_some] <;> rfl), (q4_ HB.out GE357.out)⟩
  ·rw [if_neg c8] at H
   have c8b0 : (a0_0 == 2) = false := beq_eq_false_iff_ne.mpr c8
   have c8b1 : (a0_0 != 2) = true := bne_iff_ne.mpr c8
   by_cases c17 : a0_0 = 3
   ·rw [if_pos c17] at H
    have c17b0 : (a0_0 == 3) = true := beq_iff_eq.mpr c17
    have c17b1 : (a0_0 != 3) = false := bne_eq_false_iff_eq.mpr c17
    clear c17
    by_cases c18 : a0_1.toList = ([] : List UInt8)
    ·rw [if_pos c18] at H
     have c18b0 : (a0_1.toList == ([] : List UInt8)) = true := beq_iff_eq.mpr c18
     have c18b1 : (a0_1.toList != ([] : List UInt8)) = false := bne_eq_false_iff_eq.mpr c18
     clear c18
     by_cases c19 : (l0_2.length : Int) = 0
     ·rw [if_pos c19] at H
      have c19b0 : ((l0_2.length : Int) == 0) = true := beq_iff_eq.mpr c19
      have c19b1 : ((l0_2.length : Int) != 0) = false := bne_eq_false_iff_eq.mpr c19
      clear c19
      obtain rfl := Option.some.inj H
      go_enter Try.func23, Try.ntmps23
      go_wp2_with (first | ((with_reducible refine gate_dst (N := 1) rfl ?_); (try (refine gate_guard (by rfl) ?_; dsimp only)); refine box_event ?hg (N := 1) ?hd (cs := #[.int .i64 a0_0, .string a0_1, .slice A0_2 l0_2.length c0_2, .slice A0_3 l0_3.length c0_3, .int .i64 a0_4]) (t := 26) ?hr ?_; (case hd => rfl); (case hg => rfl); (case hr => first | (go_simp; done) | (go_simp; rfl)); intro gb357 hg w20 hbox hb; have n0_ := Aside0.mk (below_step (q2_ HB.out) hb); have n1_ := Aside0.mk (hbox); have n2_ := Aside0.mk ((by rw [hg]; exact (below_size (q2_ HB.out)) : w.heap.size ≤ gb357)); have n3_ := Aside0.mk ((by rw [hg]; exact (below_size (q2_ HB.out)) : w.heap.size ≤ gb357)); clear HB; have HB := n0_; have BK357 := n1_; have GW357 := n2_; have GE357 := n3_; clear n0_ n1_ n2_ n3_; clear hb hbox hg; have hcz21_0 : w20.cell? ⟨gb357, 0, none⟩ = some (.int .i64 a0_0) := (blk_cell BK357.out 0).trans rfl; have hcz21_1 : w20.cell? ⟨gb357, 1, none⟩ = some (.string a0_1) := (blk_cell BK357.out 1).trans rfl; have hcz21_2 : w20.cell? ⟨gb357, 2, none⟩ = some (.slice A0_2 l0_2.length c0_2) := (blk_cell BK357.out 2).trans rfl; have hcz21_3 : w20.cell? ⟨gb357, 3, none⟩ = some (.slice A0_3 l0_3.length c0_3) := (blk_cell BK357.out 3).trans rfl; have hcz21_4 : w20.cell? ⟨gb357, 4, none⟩ = some (.int .i64 a0_4) := (blk_cell BK357.out 4).trans rfl; have hfz21_0 := blk_frozen BK357.out 0; have hfz21_1 := blk_frozen BK357.out 1; have hfz21_2 := blk_frozen BK357.out 2; have hfz21_3 := blk_frozen BK357.out 3; have hfz21_4 := blk_frozen BK357.out 4))
      go_ret
      exact ⟨by first | rfl | (simp [errW_none, errW_some] <;> rfl) | (simp [*, errW_none, errW_some] <;> rfl), (q4_ HB.out GE357.out)⟩
     ·rw [if_neg c19] at H
      have c19b0 : ((l0_2.length : Int) == 0) = false := beq_eq_false_iff_ne.mpr c19
      have c19b1 : ((l0_2.length : Int) != 0) = true := bne_iff_ne.mpr c19
      have c19b2 : ¬ (l0_2 = []) := fun h_ => c19 (by rw [h_]; rfl)
      obtain rfl := Option.some.inj H
      go_enter Try.func23, Try.ntmps23
      go_wp2_with (first | ((with_reducible refine gate_dst (N := 1) rfl ?_); (try (refine gate_guard (by rfl) ?_; dsimp only)); refine box_event ?hg (N := 1) ?hd (cs := #[.int .i64 a0_0, .string a0_1, .slice A0_2 l0_2.length c0_2, .slice A0_3 l0_3.length c0_3, .int .i64 a0_4]) (t := 26) ?hr ?_; (case hd => rfl); (case hg => rfl); (case hr => first | (go_simp; done) | (go_simp; rfl)); intro gb357 hg w22 hbox hb; have n0_ := Aside0.mk (below_step (q2_ HB.out) hb); have n1_ := Aside0.mk (hbox); have n2_ := Aside0.mk ((by rw [hg]; exact (below_size (q2_ HB.out)) : w.heap.size ≤ gb357)); have n3_ := Aside0.mk ((by rw [hg]; exact (below_size (q2_ HB.out)) : w.heap.size ≤ gb357)); clear HB; have HB := n0_; have BK357 := n1_; have GW357 := n2_; have GE357 := n3_; clear n0_ n1_ n2_ n3_; clear hb hbox hg; have hcz23_0 : w22.cell? ⟨gb357, 0, none⟩ = some (.int .i64 a0_0) := (blk_cell BK357.out 0).trans rfl; have hcz23_1 : w22.cell? ⟨gb357, 1, none⟩ = some (.string a0_1) := (blk_cell BK357.out 1).trans rfl; have hcz23_2 : w22.cell? ⟨gb357, 2, none⟩ = some (.slice A0_2 l0_2.length c0_2) := (blk_cell BK357.out 2).trans rfl; have hcz23_3 : w22.cell? ⟨gb357, 3, none⟩ = some (.slice A0_3 l0_3.length c0_3) := (blk_cell BK357.out 3).trans rfl; have hcz23_4 : w22.cell? ⟨gb357, 4, none⟩ = some (.int .i64 a0_4) := (blk_cell BK357.out 4).trans rfl; have hfz23_0 := blk_frozen BK357.out 0; have hfz23_1 := blk_frozen BK357.out 1; have hfz23_2 := blk_frozen BK357.out 2; have hfz23_3 := blk_frozen BK357.out 3; have hfz23_4 := blk_frozen BK357.out 4))
      go_ret
      exact ⟨by first | rfl | (simp [errW_none, errW_some] <;> rfl) | (simp [*, errW_none, errW_some] <;> rfl), (q4_ HB.out GE357.out)⟩
    ·rw [if_neg c18] at H
     have c18b0 : (a0_1.toList == ([] : List UInt8)) = false := beq_eq_false_iff_ne.mpr c18
     have c18b1 : (a0_1.toList != ([] : List UInt8)) = true := bne_iff_ne.mpr c18
     obtain rfl := Option.some.inj H
     go_enter Try.func23, Try.ntmps23
     go_wp2_with (first | ((with_reducible refine gate_dst (N := 1) rfl ?_); (try (refine gate_guard (by rfl) ?_; dsimp only)); refine box_event ?hg (N := 1) ?hd (cs := #[.int .i64 a0_0, .string a0_1, .slice A0_2 l0_2.length c0_2, .slice A0_3 l0_3.length c0_3, .int .i64 a0_4]) (t := 26) ?hr ?_; (case hd => rfl); (case hg => rfl); (case hr => first | (go_simp; done) | (go_simp; rfl)); intro gb357 hg w24 hbox hb; have n0_ := Aside0.mk (below_step (q2_ HB.out) hb); have n1_ := Aside0.mk (hbox); have n2_ := Aside0.mk ((by rw [hg]; exact (below_size (q2_ HB.out)) : w.heap.size ≤ gb357)); have n3_ := Aside0.mk ((by rw [hg]; exact (below_size (q2_ HB.out)) : w.heap.size ≤ gb357)); clear HB; have HB := n0_; have BK357 := n1_; have GW357 := n2_; have GE357 := n3_; clear n0_ n1_ n2_ n3_; clear hb hbox hg; have hcz25_0 : w24.cell? ⟨gb357, 0, none⟩ = some (.int .i64 a0_0) := (blk_cell BK357.out 0).trans rfl; have hcz25_1 : w24.cell? ⟨gb357, 1, none⟩ = some (.string a0_1) := (blk_cell BK357.out 1).trans rfl; have hcz25_2 : w24.cell? ⟨gb357, 2, none⟩ = some (.slice A0_2 l0_2.length c0_2) := (blk_cell BK357.out 2).trans rfl; have hcz25_3 : w24.cell? ⟨gb357, 3, none⟩ = some (.slice A0_3 l0_3.length c0_3) := (blk_cell BK357.out 3).trans rfl; have hcz25_4 : w24.cell? ⟨gb357, 4, none⟩ = some (.int .i64 a0_4) := (blk_cell BK357.out 4).trans rfl; have hfz25_0 := blk_frozen BK357.out 0; have hfz25_1 := blk_frozen BK357.out 1; have hfz25_2 := blk_frozen BK357.out 2; have hfz25_3 := blk_frozen BK357.out 3; have hfz25_4 := blk_frozen BK357.out 4))
     go_ret
     exact ⟨by first | rfl | (simp [errW_none, errW_some] <;> rfl) | (simp [*, errW_none, errW_some] <;> rfl), (q4_ HB.out GE357.out)⟩
   ·rw [if_neg c17] at H
    have c17b0 : (a0_0 == 3) = false := beq_eq_false_iff_ne.mpr c17
    have c17b1 : (a0_0 != 3) = true := bne_iff_ne.mpr c17
    by_cases c26 : a0_0 = 4
    ·rw [if_pos c26] at H
     have c26b0 : (a0_0 == 4) = true := beq_iff_eq.mpr c26
     have c26b1 : (a0_0 != 4) = false := bne_eq_false_iff_eq.mpr c26
     clear c26
     by_cases c27 : a0_1.toList = ([] : List UInt8)
     ·rw [if_pos c27] at H
      have c27b0 : (a0_1.toList == ([] : List UInt8)) = true := beq_iff_eq.mpr c27
      have c27b1 : (a0_1.toList != ([] : List UInt8)) = false := bne_eq_false_iff_eq.mpr c27
      clear c27
      by_cases c28 : (l0_2.length : Int) = 0
      ·rw [if_pos c28] at H
       have c28b0 : ((l0_2.length : Int) == 0) = true := beq_iff_eq.mpr c28
       have c28b1 : ((l0_2.length : Int) != 0) = false := bne_eq_false_iff_eq.mpr c28
       clear c28
       obtain rfl := Option.some.inj H
       go_enter Try.func23, Try.ntmps23
       go_wp2_with (first | ((with_reducible refine gate_dst (N := 1) rfl ?_); (try (refine gate_guard (by rfl) ?_; dsimp only)); refine box_event ?hg (N := 1) ?hd (cs := #[.int .i64 a0_0, .string a0_1, .slice A0_2 l0_2.length c0_2, .slice A0_3 l0_3.length c0_3, .int .i64 a0_4]) (t := 26) ?hr ?_; (case hd => rfl); (case hg => rfl); (case hr => first | (go_simp; done) | (go_simp; rfl)); intro gb357 hg w29 hbox hb; have n0_ := Aside0.mk (below_step (q2_ HB.out) hb); have n1_ := Aside0.mk (hbox); have n2_ := Aside0.mk ((by rw [hg]; exact (below_size (q2_ HB.out)) : w.heap.size ≤ gb357)); have n3_ := Aside0.mk ((by rw [hg]; exact (below_size (q2_ HB.out)) : w.heap.size ≤ gb357)); clear HB; have HB := n0_; have BK357 := n1_; have GW357 := n2_; have GE357 := n3_; clear n0_ n1_ n2_ n3_; clear hb hbox hg; have hcz30_0 : w29.cell? ⟨gb357, 0, none⟩ = some (.int .i64 a0_0) := (blk_cell BK357.out 0).trans rfl; have hcz30_1 : w29.cell? ⟨gb357, 1, none⟩ = some (.string a0_1) := (blk_cell BK357.out 1).trans rfl; have hcz30_2 : w29.cell? ⟨gb357, 2, none⟩ = some (.slice A0_2 l0_2.length c0_2) := (blk_cell BK357.out 2).trans rfl; have hcz30_3 : w29.cell? ⟨gb357, 3, none⟩ = some (.slice A0_3 l0_3.length c0_3) := (blk_cell BK357.out 3).trans rfl; have hcz30_4 : w29.cell? ⟨gb357, 4, none⟩ = some (.int .i64 a0_4) := (blk_cell BK357.out 4).trans rfl; have hfz30_0 := blk_frozen BK357.out 0; have hfz30_1 := blk_frozen BK357.out 1; have hfz30_2 := blk_frozen BK357.out 2; have hfz30_3 := blk_frozen BK357.out 3; have hfz30_4 := blk_frozen BK357.out 4))
       go_ret
       exact ⟨by first | rfl | (simp [errW_none, errW_some] <;> rfl) | (simp [*, errW_none, errW_some] <;> rfl), (q4_ HB.out GE357.out)⟩
      ·rw [if_neg c28] at H
       have c28b0 : ((l0_2.length : Int) == 0) = false := beq_eq_false_iff_ne.mpr c28
       have c28b1 : ((l0_2.length : Int) != 0) = true := bne_iff_ne.mpr c28
       have c28b2 : ¬ (l0_2 = []) := fun h_ => c28 (by rw [h_]; rfl)
       obtain rfl := Option.some.inj H
       go_enter Try.func23, Try.ntmps23
       go_wp2_with (first | ((with_reducible refine gate_dst (N := 1) rfl ?_); (try (refine gate_guard (by rfl) ?_; dsimp only)); refine box_event ?hg (N := 1) ?hd (cs := #[.int .i64 a0_0, .string a0_1, .slice A0_2 l0_2.length c0_2, .slice A0_3 l0_3.length c0_3, .int .i64 a0_4]) (t := 26) ?hr ?_; (case hd => rfl); (case hg => rfl); (case hr => first | (go_simp; done) | (go_simp; rfl)); intro gb357 hg w31 hbox hb; have n0_ := Aside0.mk (below_step (q2_ HB.out) hb); have n1_ := Aside0.mk (hbox); have n2_ := Aside0.mk ((by rw [hg]; exact (below_size (q2_ HB.out)) : w.heap.size ≤ gb357)); have n3_ := Aside0.mk ((by rw [hg]; exact (below_size (q2_ HB.out)) : w.heap.size ≤ gb357)); clear HB; have HB := n0_; have BK357 := n1_; have GW357 := n2_; have GE357 := n3_; clear n0_ n1_ n2_ n3_; clear hb hbox hg; have hcz32_0 : w31.cell? ⟨gb357, 0, none⟩ = some (.int .i64 a0_0) := (blk_cell BK357.out 0).trans rfl; have hcz32_1 : w31.cell? ⟨gb357, 1, none⟩ = some (.string a0_1) := (blk_cell BK357.out 1).trans rfl; have hcz32_2 : w31.cell? ⟨gb357, 2, none⟩ = some (.slice A0_2 l0_2.length c0_2) := (blk_cell BK357.out 2).trans rfl; have hcz32_3 : w31.cell? ⟨gb357, 3, none⟩ = some (.slice A0_3 l0_3.length c0_3) := (blk_cell BK357.out 3).trans rfl; have hcz32_4 : w31.cell? ⟨gb357, 4, none⟩ = some (.int .i64 a0_4) := (blk_cell BK357.out 4).trans rfl; have hfz32_0 := blk_frozen BK357.out 0; have hfz32_1 := blk_frozen BK357.out 1; have hfz32_2 := blk_frozen BK357.out 2; have hfz32_3 := blk_frozen BK357.out 3; have hfz32_4 := blk_frozen BK357.out 4))
       go_ret
       exact ⟨by first | rfl | (simp [errW_none, errW_some] <;> rfl) | (simp [*, errW_none, errW_some] <;> rfl), (q4_ HB.out GE357.out)⟩
     ·rw [if_neg c27] at H
      have c27b0 : (a0_1.toList == ([] : List UInt8)) = false := beq_eq_false_iff_ne.mpr c27
      have c27b1 : (a0_1.toList != ([] : List UInt8)) = true := bne_iff_ne.mpr c27
      obtain rfl := Option.some.inj H
      go_enter Try.func23, Try.ntmps23
      go_wp2_with (first | ((with_reducible refine gate_dst (N := 1) rfl ?_); (try (refine gate_guard (by rfl) ?_; dsimp only)); refine box_event ?hg (N := 1) ?hd (cs := #[.int .i64 a0_0, .string a0_1, .slice A0_2 l0_2.length c0_2, .slice A0_3 l0_3.length c0_3, .int .i64 a0_4]) (t := 26) ?hr ?_; (case hd => rfl); (case hg => rfl); (case hr => first | (go_simp; done) | (go_simp; rfl)); intro gb357 hg w33 hbox hb; have n0_ := Aside0.mk (below_step (q2_ HB.out) hb); have n1_ := Aside0.mk (hbox); have n2_ := Aside0.mk ((by rw [hg]; exact (below_size (q2_ HB.out)) : w.heap.size ≤ gb357)); have n3_ := Aside0.mk ((by rw [hg]; exact (below_size (q2_ HB.out)) : w.heap.size ≤ gb357)); clear HB; have HB := n0_; have BK357 := n1_; have GW357 := n2_; have GE357 := n3_; clear n0_ n1_ n2_ n3_; clear hb hbox hg; have hcz34_0 : w33.cell? ⟨gb357, 0, none⟩ = some (.int .i64 a0_0) := (blk_cell BK357.out 0).trans rfl; have hcz34_1 : w33.cell? ⟨gb357, 1, none⟩ = some (.string a0_1) := (blk_cell BK357.out 1).trans rfl; have hcz34_2 : w33.cell? ⟨gb357, 2, none⟩ = some (.slice A0_2 l0_2.length c0_2) := (blk_cell BK357.out 2).trans rfl; have hcz34_3 : w33.cell? ⟨gb357, 3, none⟩ = some (.slice A0_3 l0_3.length c0_3) := (blk_cell BK357.out 3).trans rfl; have hcz34_4 : w33.cell? ⟨gb357, 4, none⟩ = some (.int .i64 a0_4) := (blk_cell BK357.out 4).trans rfl; have hfz34_0 := blk_frozen BK357.out 0; have hfz34_1 := blk_frozen BK357.out 1; have hfz34_2 := blk_frozen BK357.out 2; have hfz34_3 := blk_frozen BK357.out 3; have hfz34_4 := blk_frozen BK357.out 4))
      go_ret
      exact ⟨by first | rfl | (simp [errW_none, errW_some] <;> rfl) | (simp [*, errW_none, errW_some] <;> rfl), (q4_ HB.out GE357.out)⟩
    ·rw [if_neg c26] at H
     have c26b0 : (a0_0 == 4) = false := beq_eq_false_iff_ne.mpr c26
     have c26b1 : (a0_0 != 4) = true := bne_iff_ne.mpr c26
     obtain rfl := Option.some.inj H
     go_enter Try.func23, Try.ntmps23
     go_wp2_with (first | ((with_reducible refine gate_dst (N := 1) rfl ?_); (try (refine gate_guard (by rfl) ?_; dsimp only)); refine box_event ?hg (N := 1) ?hd (cs := #[.int .i64 a0_0, .string a0_1, .slice A0_2 l0_2.length c0_2, .slice A0_3 l0_3.length c0_3, .int .i64 a0_4]) (t := 26) ?hr ?_; (case hd => rfl); (case hg => rfl); (case hr => first | (go_simp; done) | (go_simp; rfl)); intro gb357 hg w35 hbox hb; have n0_ := Aside0.mk (below_step (q2_ HB.out) hb); have n1_ := Aside0.mk (hbox); have n2_ := Aside0.mk ((by rw [hg]; exact (below_size (q2_ HB.out)) : w.heap.size ≤ gb357)); have n3_ := Aside0.mk ((by rw [hg]; exact (below_size (q2_ HB.out)) : w.heap.size ≤ gb357)); clear HB; have HB := n0_; have BK357 := n1_; have GW357 := n2_; have GE357 := n3_; clear n0_ n1_ n2_ n3_; clear hb hbox hg; have hcz36_0 : w35.cell? ⟨gb357, 0, none⟩ = some (.int .i64 a0_0) := (blk_cell BK357.out 0).trans rfl; have hcz36_1 : w35.cell? ⟨gb357, 1, none⟩ = some (.string a0_1) := (blk_cell BK357.out 1).trans rfl; have hcz36_2 : w35.cell? ⟨gb357, 2, none⟩ = some (.slice A0_2 l0_2.length c0_2) := (blk_cell BK357.out 2).trans rfl; have hcz36_3 : w35.cell? ⟨gb357, 3, none⟩ = some (.slice A0_3 l0_3.length c0_3) := (blk_cell BK357.out 3).trans rfl; have hcz36_4 : w35.cell? ⟨gb357, 4, none⟩ = some (.int .i64 a0_4) := (blk_cell BK357.out 4).trans rfl; have hfz36_0 := blk_frozen BK357.out 0; have hfz36_1 := blk_frozen BK357.out 1; have hfz36_2 := blk_frozen BK357.out 2; have hfz36_3 := blk_frozen BK357.out 3; have hfz36_4 := blk_frozen BK357.out 4))
     go_ret
     exact ⟨by first | rfl | (simp [errW_none, errW_some] <;> rfl) | (simp [*, errW_none, errW_some] <;> rfl), (q4_ HB.out GE357.out)⟩

end Go.Proofs.Ytbmimcpllpgcaaa.G
