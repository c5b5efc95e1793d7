/- What functions of the translation come to, and their calls' proofs; by a program of mine over the kit's print, with contracts given by hand beside. Conditions: where a plain function tells none, nothing is said. -/
import Derived.Test.YtbmimcpllpgcaaaG0
namespace Go.Proofs.Ytbmimcpllpgcaaa.G
open Go.RowKit Go.Proofs.YtbmimcpllpgcaaaW.PrintWords Go.Proofs.YtbmimcpllpgcaaaW.PrintLast Go.Proofs.YtbmimcpllpgcaaaW.PrintMore
attribute [local go_sem] max2_int min2_int max_two min_two max_three min_three max_four min_four   -- for this text's walks alone
set_option linter.unusedVariables false
set_option linter.unusedSimpArgs false

/-! ### caravanlaw5_Great: function 11 -/
mutual
def caravanlaw5_Great.l0 : Nat → Int → Int → ByteArray → List (S29) → List ByteArray → Int → Option (Bool)
 | 0, _, _, _, _, _, _ => none
 | k + 1, x3, x354000, x354001, x354002, x354003, x354004 => if x3 < (x354002.length : Int) then (caravanlaw5_Great.j1 k x3 (decide (x3 < 60)) x354000 x354001 x354002 x354003 x354004) else (caravanlaw5_Great.j1 k x3 false x354000 x354001 x354002 x354003 x354004)
def caravanlaw5_Great.j1 : Nat → Int → Bool → Int → ByteArray → List (S29) → List ByteArray → Int → Option (Bool)
 | 0, _, _, _, _, _, _, _ => none
 | k + 1, x3, x13, x354000, x354001, x354002, x354003, x354004 => if x13 = true then (if 0 ≤ x3 then (if x3 < (x354002.length : Int) then (if (((rd_T29 x354002 x3).f0).size : Int) > 400 then (some true) else (if (((rd_T29 x354002 x3).f1).size : Int) > 400 then (some true) else (caravanlaw5_Great.l0 k (wrap64 (x3 + 1)) x354000 x354001 x354002 x354003 x354004))) else (none)) else (none)) else (caravanlaw5_Great.l1 k 0 x354000 x354001 x354002 x354003 x354004)
def caravanlaw5_Great.l1 : Nat → Int → Int → ByteArray → List (S29) → List ByteArray → Int → Option (Bool)
 | 0, _, _, _, _, _, _ => none
 | k + 1, x4, x354000, x354001, x354002, x354003, x354004 => if x4 < (x354003.length : Int) then (caravanlaw5_Great.j3 k x4 (decide (x4 < 60)) x354000 x354001 x354002 x354003 x354004) else (caravanlaw5_Great.j3 k x4 false x354000 x354001 x354002 x354003 x354004)
def caravanlaw5_Great.j3 : Nat → Int → Bool → Int → ByteArray → List (S29) → List ByteArray → Int → Option (Bool)
 | 0, _, _, _, _, _, _, _ => none
 | k + 1, x4, x42, x354000, x354001, x354002, x354003, x354004 => if x42 = true then (if 0 ≤ x4 then (if x4 < (x354003.length : Int) then (if ((rdOf ByteArray.empty x354003 x4).size : Int) > 400 then (some true) else (caravanlaw5_Great.l1 k (wrap64 (x4 + 1)) x354000 x354001 x354002 x354003 x354004)) else (none)) else (none)) else (if (x354001.size : Int) > 1000 then (some true) else (if (x354002.length : Int) > 50 then (some true) else (some (decide ((x354003.length : Int) > 50)))))
end
def caravanlaw5_Great.f (k : Nat) (a0_0 : Int) (a0_1 : ByteArray) (l0_2 : List (S29)) (l0_3 : List ByteArray) (a0_4 : Int) : Option (Bool) := caravanlaw5_Great.l0 k 0 a0_0 a0_1 l0_2 l0_3 a0_4
theorem caravanlaw5_Great.mono_l : ∀ k, (∀ y0 y1 y2 y3 y4 y5, LeO (caravanlaw5_Great.l0 k y0 y1 y2 y3 y4 y5) (caravanlaw5_Great.l0 (k + 1) y0 y1 y2 y3 y4 y5)) ∧ (∀ y0 y1 y2 y3 y4 y5 y6, LeO (caravanlaw5_Great.j1 k y0 y1 y2 y3 y4 y5 y6) (caravanlaw5_Great.j1 (k + 1) y0 y1 y2 y3 y4 y5 y6)) ∧ (∀ y0 y1 y2 y3 y4 y5, LeO (caravanlaw5_Great.l1 k y0 y1 y2 y3 y4 y5) (caravanlaw5_Great.l1 (k + 1) y0 y1 y2 y3 y4 y5)) ∧ (∀ y0 y1 y2 y3 y4 y5 y6, LeO (caravanlaw5_Great.j3 k y0 y1 y2 y3 y4 y5 y6) (caravanlaw5_Great.j3 (k + 1) y0 y1 y2 y3 y4 y5 y6))
 | 0 => ⟨fun _ _ _ _ _ _ r h => by simp [caravanlaw5_Great.l0] at h, fun _ _ _ _ _ _ _ r h => by simp [caravanlaw5_Great.j1] at h, fun _ _ _ _ _ _ r h => by simp [caravanlaw5_Great.l1] at h, fun _ _ _ _ _ _ _ r h => by simp [caravanlaw5_Great.j3] at h⟩
 | k + 1 => by
  obtain ⟨ih0, ih1, ih2, ih3⟩ := caravanlaw5_Great.mono_l k
  refine ⟨?_, ?_, ?_, ?_⟩
  ·intro y0 y1 y2 y3 y4 y5
   unfold caravanlaw5_Great.l0
   repeat' first
   | (with_reducible exact ih0 _ _ _ _ _ _)
   | (with_reducible exact ih1 _ _ _ _ _ _ _)
   | (with_reducible exact ih2 _ _ _ _ _ _)
   | (with_reducible exact ih3 _ _ _ _ _ _ _)
   | (with_reducible exact LeO.refl _)
   | (with_reducible exact LeO.none _)
   | (with_reducible refine LeO.ite ?_ ?_)
   | (with_reducible refine LeO.bind ?_ (fun _ => ?_))
   | exact ih0 _ _ _ _ _ _
   | exact ih1 _ _ _ _ _ _ _
   | exact ih2 _ _ _ _ _ _
   | exact ih3 _ _ _ _ _ _ _
   | exact LeO.none _
   | refine LeO.ite ?_ ?_
   | refine LeO.bind ?_ (fun _ => ?_)
  ·intro y0 y1 y2 y3 y4 y5 y6
   unfold caravanlaw5_Great.j1
   repeat' first
   | (with_reducible exact ih0 _ _ _ _ _ _)
   | (with_reducible exact ih1 _ _ _ _ _ _ _)
   | (with_reducible exact ih2 _ _ _ _ _ _)
   | (with_reducible exact ih3 _ _ _ _ _ _ _)
   | (with_reducible exact LeO.refl _)
   | (with_reducible exact LeO.none _)
   | (with_reducible refine LeO.ite ?_ ?_)
   | (with_reducible refine LeO.bind ?_ (fun _ => ?_))
   | exact ih0 _ _ _ _ _ _
   | exact ih1 _ _ _ _ _ _ _
   | exact ih2 _ _ _ _ _ _
   | exact ih3 _ _ _ _ _ _ _
   | exact LeO.none _
   | refine LeO.ite ?_ ?_
   | refine LeO.bind ?_ (fun _ => ?_)
  ·intro y0 y1 y2 y3 y4 y5
   unfold caravanlaw5_Great.l1
   repeat' first
   | (with_reducible exact ih0 _ _ _ _ _ _)
   | (with_reducible exact ih1 _ _ _ _ _ _ _)
   | (with_reducible exact ih2 _ _ _ _ _ _)
   | (with_reducible exact ih3 _ _ _ _ _ _ _)
   | (with_reducible exact LeO.refl _)
   | (with_reducible exact LeO.none _)
   | (with_reducible refine LeO.ite ?_ ?_)
   | (with_reducible refine LeO.bind ?_ (fun _ => ?_))
   | exact ih0 _ _ _ _ _ _
   | exact ih1 _ _ _ _ _ _ _
   | exact ih2 _ _ _ _ _ _
   | exact ih3 _ _ _ _ _ _ _
   | exact LeO.none _
   | refine LeO.ite ?_ ?_
   | refine LeO.bind ?_ (fun _ => ?_)
  ·intro y0 y1 y2 y3 y4 y5 y6
   unfold caravanlaw5_Great.j3
   repeat' first
   | (with_reducible exact ih0 _ _ _ _ _ _)
   | (with_reducible exact ih1 _ _ _ _ _ _ _)
   | (with_reducible exact ih2 _ _ _ _ _ _)
   | (with_reducible exact ih3 _ _ _ _ _ _ _)
   | (with_reducible exact LeO.refl _)
   | (with_reducible exact LeO.none _)
   | (with_reducible refine LeO.ite ?_ ?_)
   | (with_reducible refine LeO.bind ?_ (fun _ => ?_))
   | exact ih0 _ _ _ _ _ _
   | exact ih1 _ _ _ _ _ _ _
   | exact ih2 _ _ _ _ _ _
   | exact ih3 _ _ _ _ _ _ _
   | exact LeO.none _
   | refine LeO.ite ?_ ?_
   | refine LeO.bind ?_ (fun _ => ?_)
theorem caravanlaw5_Great.mono : ∀ a0 a1 a2 a3 a4 k, LeO (caravanlaw5_Great.f k a0 a1 a2 a3 a4) (caravanlaw5_Great.f (k + 1) a0 a1 a2 a3 a4) := by
 intro a0 a1 a2 a3 a4 k
 obtain ⟨ih0, ih1, ih2, ih3⟩ := caravanlaw5_Great.mono_l k
 unfold caravanlaw5_Great.f
 repeat' first
  | (with_reducible exact ih0 _ _ _ _ _ _)
  | (with_reducible exact ih1 _ _ _ _ _ _ _)
  | (with_reducible exact ih2 _ _ _ _ _ _)
  | (with_reducible exact ih3 _ _ _ _ _ _ _)
  | (with_reducible exact LeO.refl _)
  | (with_reducible exact LeO.none _)
  | (with_reducible refine LeO.ite ?_ ?_)
  | (with_reducible refine LeO.bind ?_ (fun _ => ?_))
  | exact ih0 _ _ _ _ _ _
  | exact ih1 _ _ _ _ _ _ _
  | exact ih2 _ _ _ _ _ _
  | exact ih3 _ _ _ _ _ _ _
  | exact LeO.none _
  | refine LeO.ite ?_ ?_
  | refine LeO.bind ?_ (fun _ => ?_)
set_option maxHeartbeats 8000000 in
set_option maxRecDepth 100000 in
theorem caravanlaw5_Great.calls (k : Nat) (a0_0 : Int) (a0_1 : ByteArray) (A0_2 : Option Addr) (c0_2 : Nat) (l0_2 : List (S29)) (A0_3 : Option Addr) (c0_3 : Nat) (l0_3 : List ByteArray) (a0_4 : Int) (r : Bool) (w : World) (hr0_2 : Kd.C k29 w A0_2 l0_2.length l0_2) (hc0_2 : l0_2.length ≤ c0_2) (hr0_3 : Kd.C Kd.string w A0_3 l0_3.length l0_3) (hc0_3 : l0_3.length ≤ c0_3) (h : caravanlaw5_Great.f k a0_0 a0_1 l0_2 l0_3 a0_4 = some r) :
 Calls Try.prog 11 #[.agg #[.int .i64 a0_0, .string a0_1, .slice A0_2 l0_2.length c0_2, .slice A0_3 l0_3.length c0_3, .int .i64 a0_4]] w fun e w' => e = .returned (.bool r) ∧ Below w.heap.size w w' := by
 have hu26 := Try.underlying26
 have HR0_2 := Aside0.mk hr0_2
 have HC0_2 := Aside0.mk hc0_2
 clear hr0_2 hc0_2
 have HR0_3 := Aside0.mk hr0_3
 have HC0_3 := Aside0.mk hc0_3
 clear hr0_3 hc0_3
 have HB := Aside0.mk (Below.refl w.heap.size w)
 have H : (caravanlaw5_Great.l0 k 0 a0_0 a0_1 l0_2 l0_3 a0_4) = some r := h
 clear h
 have H' := Aside0.mk H
 clear H
 go_enter Try.func11, Try.ntmps11
 go_wp2_with (first | ((with_reducible refine gate_dst (N := 1) rfl ?_); (try (refine gate_guard (by rfl) ?_; dsimp only)); refine box_event ?hg (N := 1) ?hd (cs := #[.int .i64 a0_0, .string a0_1, .slice A0_2 l0_2.length c0_2, .slice A0_3 l0_3.length c0_3, .int .i64 a0_4]) (t := 26) ?hr ?_; (case hd => rfl); (case hg => rfl); (case hr => first | (go_simp; done) | (go_simp; rfl)); intro gb353 hg w2 hbox hb; have n0_ := Aside0.mk (below_step (q2_ HB.out) hb); have n1_ := Aside0.mk (hbox); have n2_ := Aside0.mk ((by rw [hg]; exact (below_size (q2_ HB.out)) : w.heap.size ≤ gb353)); have n3_ := Aside0.mk ((by rw [hg]; exact (below_size (q2_ HB.out)) : w.heap.size ≤ gb353)); clear HB; have HB := n0_; have BK353 := n1_; have GW353 := n2_; have GE353 := n3_; clear n0_ n1_ n2_ n3_; clear hb hbox hg))
 go_loopg [3] k (fun kq v3 w' => ∃ (x3_1 : Int), v3 = .int .i64 x3_1 ∧ Aside0 (caravanlaw5_Great.l0 kq x3_1 a0_0 a0_1 l0_2 l0_3 a0_4 = some r) ∧ Aside0 (kq ≤ k) ∧ Aside0 (w'.heap[gb353]? = some (.cells #[.int .i64 a0_0, .string a0_1, (.slice A0_2 l0_2.length c0_2), (.slice A0_3 l0_3.length c0_3), .int .i64 a0_4] 26 (0, 0))) ∧ Aside0 (Below w.heap.size w w'))
 case atStart => exact ⟨(0), (by first | rfl | (simp; done) | (simp [*]; done)), H', ⟨Nat.le_refl _⟩, ⟨by (with_reducible repeat (first | refine blk_drewN ?_ _ | refine blk_drew ?_ | refine blk_alloc ?_ _)); exact BK353.out⟩, ⟨(q4_ HB.out GE353.out)⟩⟩
 case round =>
  clear H'
  try clear c1
  try clear p2
  obtain ⟨x3_1, rfl, HA, HK1, BK353, HB⟩ := hrel
  cases gk with
  | zero => exact absurd HA.out (by simp [caravanlaw5_Great.l0])
  | succ k1 =>
   have H := HA.out
   clear HA
   simp only [caravanlaw5_Great.l0] at H
   have HC3 := Aside0.mk H
   clear H
   go_upto_region 2 with (fail)
   go_cut [13] (fun v13 wc => ∃ (kq : Nat) (x13_2 : Bool), v13 = .bool x13_2 ∧ Aside0 (caravanlaw5_Great.j1 kq x3_1 x13_2 a0_0 a0_1 l0_2 l0_3 a0_4 = some r) ∧ Aside0 (kq ≤ k1) ∧ Aside0 (wc.heap[gb353]? = some (.cells #[.int .i64 a0_0, .string a0_1, (.slice A0_2 l0_2.length c0_2), (.slice A0_3 l0_3.length c0_3), .int .i64 a0_4] 26 (0, 0))) ∧ Aside0 (Below w.heap.size w wc))
   case first =>
    have H := HC3.out
    clear HC3
    by_cases c4 : x3_1 < (l0_2.length : Int)
    ·rw [if_pos c4] at H
     have c4b0 : decide (x3_1 < (l0_2.length : Int)) = true := decide_eq_true c4
     clear c4
     (first | rw [c4b0] | (simp only [i64_w, i32_w]; rw [c4b0]) | skip)
     have H' := Aside0.mk H
     clear H
     have hcz5_0 : wr.cell? ⟨gb353, 0, none⟩ = some (.int .i64 a0_0) := (blk_cell BK353.out 0).trans rfl
     have hcz5_1 : wr.cell? ⟨gb353, 1, none⟩ = some (.string a0_1) := (blk_cell BK353.out 1).trans rfl
     have hcz5_2 : wr.cell? ⟨gb353, 2, none⟩ = some (.slice A0_2 l0_2.length c0_2) := (blk_cell BK353.out 2).trans rfl
     have hcz5_3 : wr.cell? ⟨gb353, 3, none⟩ = some (.slice A0_3 l0_3.length c0_3) := (blk_cell BK353.out 3).trans rfl
     have hcz5_4 : wr.cell? ⟨gb353, 4, none⟩ = some (.int .i64 a0_4) := (blk_cell BK353.out 4).trans rfl
     have hfz5_0 := blk_frozen BK353.out 0
     have hfz5_1 := blk_frozen BK353.out 1
     have hfz5_2 := blk_frozen BK353.out 2
     have hfz5_3 := blk_frozen BK353.out 3
     have hfz5_4 := blk_frozen BK353.out 4
     go_wp2
     go_meet
     case rel => exact ⟨_, (decide (x3_1 < 60)), (by first | rfl | (simp; done) | (simp [*]; done)), H', ⟨by have := HK1.out; first | omega | exact Nat.le_refl _⟩, ⟨by (with_reducible repeat (first | refine blk_drewN ?_ _ | refine blk_drew ?_ | refine blk_alloc ?_ _)); exact BK353.out⟩, ⟨(q4_ HB.out GE353.out)⟩⟩
    ·rw [if_neg c4] at H
     have c4b0 : decide (x3_1 < (l0_2.length : Int)) = false := decide_eq_false c4
     clear c4
     (first | rw [c4b0] | (simp only [i64_w, i32_w]; rw [c4b0]) | skip)
     have H' := Aside0.mk H
     clear H
     have hcz6_0 : wr.cell? ⟨gb353, 0, none⟩ = some (.int .i64 a0_0) := (blk_cell BK353.out 0).trans rfl
     have hcz6_1 : wr.cell? ⟨gb353, 1, none⟩ = some (.string a0_1) := (blk_cell BK353.out 1).trans rfl
     have hcz6_2 : wr.cell? ⟨gb353, 2, none⟩ = some (.slice A0_2 l0_2.length c0_2) := (blk_cell BK353.out 2).trans rfl
     have hcz6_3 : wr.cell? ⟨gb353, 3, none⟩ = some (.slice A0_3 l0_3.length c0_3) := (blk_cell BK353.out 3).trans rfl
     have hcz6_4 : wr.cell? ⟨gb353, 4, none⟩ = some (.int .i64 a0_4) := (blk_cell BK353.out 4).trans rfl
     have hfz6_0 := blk_frozen BK353.out 0
     have hfz6_1 := blk_frozen BK353.out 1
     have hfz6_2 := blk_frozen BK353.out 2
     have hfz6_3 := blk_frozen BK353.out 3
     have hfz6_4 := blk_frozen BK353.out 4
     go_wp2
     go_meet
     case rel => exact ⟨_, (false), (by first | rfl | (simp; done) | (simp [*]; done)), H', ⟨by have := HK1.out; first | omega | exact Nat.le_refl _⟩, ⟨by (with_reducible repeat (first | refine blk_drewN ?_ _ | refine blk_drew ?_ | refine blk_alloc ?_ _)); exact BK353.out⟩, ⟨(q4_ HB.out GE353.out)⟩⟩
   case rest =>
    clear HC3
    try clear c1
    try clear p2
    try clear c4
    try clear c4b0
    try clear hcz5_0
    try clear hcz5_1
    try clear hcz5_2
    try clear hcz5_3
    try clear hcz5_4
    try clear hcz6_0
    try clear hcz6_1
    try clear hcz6_2
    try clear hcz6_3
    try clear hcz6_4
    try clear hfz5_0
    try clear hfz5_1
    try clear hfz5_2
    try clear hfz5_3
    try clear hfz5_4
    try clear hfz6_0
    try clear hfz6_1
    try clear hfz6_2
    try clear hfz6_3
    try clear hfz6_4
    try clear p2
    obtain ⟨kq, x13_2, rfl, HA, HJ2, BK353, HB⟩ := hcut
    cases kq with
    | zero => exact absurd HA.out (by simp [caravanlaw5_Great.j1])
    | succ kj2 =>
     have H := HA.out
     clear HA
     simp only [caravanlaw5_Great.j1] at H
     by_cases c7 : x13_2 = true
     ·subst c7
      have H1 : (if 0 ≤ x3_1 then (if x3_1 < (l0_2.length : Int) then (if (((rd_T29 l0_2 x3_1).f0).size : Int) > 400 then (some true) else (if (((rd_T29 l0_2 x3_1).f1).size : Int) > 400 then (some true) else (caravanlaw5_Great.l0 kj2 (wrap64 (x3_1 + 1)) a0_0 a0_1 l0_2 l0_3 a0_4))) else (none)) else (none)) = some r := by rw [if_pos rfl] at H; exact H
      clear H
      have H := H1
      clear H1
      by_cases c8 : 0 ≤ x3_1
      ·rw [if_pos c8] at H
       have c8b0 : decide (0 ≤ x3_1) = true := decide_eq_true c8
       clear c8
       by_cases c9 : x3_1 < (l0_2.length : Int)
       ·rw [if_pos c9] at H
        have c9b0 : decide (x3_1 < (l0_2.length : Int)) = true := decide_eq_true c9
        clear c9
        by_cases c10 : (((rd_T29 l0_2 x3_1).f0).size : Int) > 400
        ·rw [if_pos c10] at H
         have c10b0 : decide (400 < (((rd_T29 l0_2 x3_1).f0).size : Int)) = true := decide_eq_true c10
         have c10b1 : decide (400 < ((rd_T29 l0_2 x3_1).f0).size) = true := decide_eq_true (by omega)
         clear c10
         obtain rfl := Option.some.inj H
         have hcz11_0 : wc.cell? ⟨gb353, 0, none⟩ = some (.int .i64 a0_0) := (blk_cell BK353.out 0).trans rfl
         have hcz11_1 : wc.cell? ⟨gb353, 1, none⟩ = some (.string a0_1) := (blk_cell BK353.out 1).trans rfl
         have hcz11_2 : wc.cell? ⟨gb353, 2, none⟩ = some (.slice A0_2 l0_2.length c0_2) := (blk_cell BK353.out 2).trans rfl
         have hcz11_3 : wc.cell? ⟨gb353, 3, none⟩ = some (.slice A0_3 l0_3.length c0_3) := (blk_cell BK353.out 3).trans rfl
         have hcz11_4 : wc.cell? ⟨gb353, 4, none⟩ = some (.int .i64 a0_4) := (blk_cell BK353.out 4).trans rfl
         have hfz11_0 := blk_frozen BK353.out 0
         have hfz11_1 := blk_frozen BK353.out 1
         have hfz11_2 := blk_frozen BK353.out 2
         have hfz11_3 := blk_frozen BK353.out 3
         have hfz11_4 := blk_frozen BK353.out 4
         have p354 : 0 ≤ (x3_1 : Int) := of_decide_eq_true (by first | (with_reducible assumption) | assumption)
         have q354 : x3_1 < (l0_2.length : Int) := of_decide_eq_true (by first | (with_reducible assumption) | assumption)
         obtain ⟨ad354, e354, hx354_0, hx354_1⟩ := at_T29 HR0_2.out x3_1 p354 q354
         cases e354
         replace hx354_0 := (HB.out.cell (World.block_lt_of_cell? w _ hx354_0)).trans hx354_0
         replace hx354_1 := (HB.out.cell (World.block_lt_of_cell? w _ hx354_1)).trans hx354_1
         replace p354 := eq_true p354
         replace q354 := eq_true q354
         go_wp2
         go_ret
         exact ⟨by first | rfl | (simp [errW_none, errW_some] <;> rfl) | (simp [*, errW_none, errW_some] <;> rfl), (q4_ HB.out GE353.out)⟩
        ·rw [if_neg c10] at H
         have c10b0 : decide (400 < (((rd_T29 l0_2 x3_1).f0).size : Int)) = false := decide_eq_false c10
         have c10b1 : decide (400 < ((rd_T29 l0_2 x3_1).f0).size) = false := decide_eq_false (by omega)
         clear c10
         by_cases c12 : (((rd_T29 l0_2 x3_1).f1).size : Int) > 400
         ·rw [if_pos c12] at H
          have c12b0 : decide (400 < (((rd_T29 l0_2 x3_1).f1).size : Int)) = true := decide_eq_true c12
          have c12b1 : decide (400 < ((rd_T29 l0_2 x3_1).f1).size) = true := decide_eq_true (by omega)
          clear c12
          obtain rfl := Option.some.inj H
          have hcz13_0 : wc.cell? ⟨gb353, 0, none⟩ = some (.int .i64 a0_0) := (blk_cell BK353.out 0).trans rfl
          have hcz13_1 : wc.cell? ⟨gb353, 1, none⟩ = some (.string a0_1) := (blk_cell BK353.out 1).trans rfl
          have hcz13_2 : wc.cell? ⟨gb353, 2, none⟩ = some (.slice A0_2 l0_2.length c0_2) := (blk_cell BK353.out 2).trans rfl
          have hcz13_3 : wc.cell? ⟨gb353, 3, none⟩ = some (.slice A0_3 l0_3.length c0_3) := (blk_cell BK353.out 3).trans rfl
          have hcz13_4 : wc.cell? ⟨gb353, 4, none⟩ = some (.int .i64 a0_4) := (blk_cell BK353.out 4).trans rfl
          have hfz13_0 := blk_frozen BK353.out 0
          have hfz13_1 := blk_frozen BK353.out 1
          have hfz13_2 := blk_frozen BK353.out 2
          have hfz13_3 := blk_frozen BK353.out 3
          have hfz13_4 := blk_frozen BK353.out 4
          have p354 : 0 ≤ (x3_1 : Int) := of_decide_eq_true (by first | (with_reducible assumption) | assumption)
          have q354 : x3_1 < (l0_2.length : Int) := of_decide_eq_true (by first | (with_reducible assumption) | assumption)
          obtain ⟨ad354, e354, hx354_0, hx354_1⟩ := at_T29 HR0_2.out x3_1 p354 q354
          cases e354
          replace hx354_0 := (HB.out.cell (World.block_lt_of_cell? w _ hx354_0)).trans hx354_0
          replace hx354_1 := (HB.out.cell (World.block_lt_of_cell? w _ hx354_1)).trans hx354_1
          replace p354 := eq_true p354
          replace q354 := eq_true q354
          have p355 : 0 ≤ (x3_1 : Int) := of_decide_eq_true (by first | (with_reducible assumption) | assumption)
          have q355 : x3_1 < (l0_2.length : Int) := of_decide_eq_true (by first | (with_reducible assumption) | assumption)
          obtain ⟨ad355, e355, hx355_0, hx355_1⟩ := at_T29 HR0_2.out x3_1 p355 q355
          obtain rfl : ad354 = ad355 := (by injection e355)
          replace hx355_0 := (HB.out.cell (World.block_lt_of_cell? w _ hx355_0)).trans hx355_0
          replace hx355_1 := (HB.out.cell (World.block_lt_of_cell? w _ hx355_1)).trans hx355_1
          replace p355 := eq_true p355
          replace q355 := eq_true q355
          go_wp2
          go_ret
          exact ⟨by first | rfl | (simp [errW_none, errW_some] <;> rfl) | (simp [*, errW_none, errW_some] <;> rfl), (q4_ HB.out GE353.out)⟩
         ·rw [if_neg c12] at H
          have c12b0 : decide (400 < (((rd_T29 l0_2 x3_1).f1).size : Int)) = false := decide_eq_false c12
          have c12b1 : decide (400 < ((rd_T29 l0_2 x3_1).f1).size) = false := decide_eq_false (by omega)
          clear c12
          have H' := Aside0.mk H
          clear H
          have hcz14_0 : wc.cell? ⟨gb353, 0, none⟩ = some (.int .i64 a0_0) := (blk_cell BK353.out 0).trans rfl
          have hcz14_1 : wc.cell? ⟨gb353, 1, none⟩ = some (.string a0_1) := (blk_cell BK353.out 1).trans rfl
          have hcz14_2 : wc.cell? ⟨gb353, 2, none⟩ = some (.slice A0_2 l0_2.length c0_2) := (blk_cell BK353.out 2).trans rfl
          have hcz14_3 : wc.cell? ⟨gb353, 3, none⟩ = some (.slice A0_3 l0_3.length c0_3) := (blk_cell BK353.out 3).trans rfl
          have hcz14_4 : wc.cell? ⟨gb353, 4, none⟩ = some (.int .i64 a0_4) := (blk_cell BK353.out 4).trans rfl
          have hfz14_0 := blk_frozen BK353.out 0
          have hfz14_1 := blk_frozen BK353.out 1
          have hfz14_2 := blk_frozen BK353.out 2
          have hfz14_3 := blk_frozen BK353.out 3
          have hfz14_4 := blk_frozen BK353.out 4
          have p354 : 0 ≤ (x3_1 : Int) := of_decide_eq_true (by first | (with_reducible assumption) | assumption)
          have q354 : x3_1 < (l0_2.length : Int) := of_decide_eq_true (by first | (with_reducible assumption) | assumption)
          obtain ⟨ad354, e354, hx354_0, hx354_1⟩ := at_T29 HR0_2.out x3_1 p354 q354
          cases e354
          replace hx354_0 := (HB.out.cell (World.block_lt_of_cell? w _ hx354_0)).trans hx354_0
          replace hx354_1 := (HB.out.cell (World.block_lt_of_cell? w _ hx354_1)).trans hx354_1
          replace p354 := eq_true p354
          replace q354 := eq_true q354
          have p355 : 0 ≤ (x3_1 : Int) := of_decide_eq_true (by first | (with_reducible assumption) | assumption)
          have q355 : x3_1 < (l0_2.length : Int) := of_decide_eq_true (by first | (with_reducible assumption) | assumption)
          obtain ⟨ad355, e355, hx355_0, hx355_1⟩ := at_T29 HR0_2.out x3_1 p355 q355
          obtain rfl : ad354 = ad355 := (by injection e355)
          replace hx355_0 := (HB.out.cell (World.block_lt_of_cell? w _ hx355_0)).trans hx355_0
          replace hx355_1 := (HB.out.cell (World.block_lt_of_cell? w _ hx355_1)).trans hx355_1
          replace p355 := eq_true p355
          replace q355 := eq_true q355
          go_wp2
          go_roundg kj2
          case measure => have := HK1.out; have := HJ2.out; omega
          case rel => exact ⟨(wrap64 (x3_1 + 1)), (by first | rfl | (simp; done) | (simp [*]; done)), H', ⟨by have := HK1.out; have := HJ2.out; omega⟩, ⟨by (with_reducible repeat (first | refine blk_drewN ?_ _ | refine blk_drew ?_ | refine blk_alloc ?_ _)); exact BK353.out⟩, ⟨(q4_ HB.out GE353.out)⟩⟩
       ·rw [if_neg c9] at H
        exact absurd H (by simp)
      ·rw [if_neg c8] at H
       exact absurd H (by simp)
     ·replace c7 := Bool.eq_false_iff.mpr c7
      subst c7
      have H1 : (caravanlaw5_Great.l1 kj2 0 a0_0 a0_1 l0_2 l0_3 a0_4) = some r := by rw [if_neg (show ¬ (false = true) by decide)] at H; exact H
      clear H
      have H := H1
      clear H1
      have H' := Aside0.mk H
      clear H
      go_wp2
      go_loopg [4] kj2 (fun kq v4 w' => ∃ (x4_3 : Int), v4 = .int .i64 x4_3 ∧ Aside0 (caravanlaw5_Great.l1 kq x4_3 a0_0 a0_1 l0_2 l0_3 a0_4 = some r) ∧ Aside0 (kq ≤ kj2) ∧ Aside0 (w'.heap[gb353]? = some (.cells #[.int .i64 a0_0, .string a0_1, (.slice A0_2 l0_2.length c0_2), (.slice A0_3 l0_3.length c0_3), .int .i64 a0_4] 26 (0, 0))) ∧ Aside0 (Below w.heap.size w w'))
      case atStart => exact ⟨(0), (by first | rfl | (simp; done) | (simp [*]; done)), H', ⟨Nat.le_refl _⟩, ⟨by (with_reducible repeat (first | refine blk_drewN ?_ _ | refine blk_drew ?_ | refine blk_alloc ?_ _)); exact BK353.out⟩, ⟨(q4_ HB.out GE353.out)⟩⟩
      case round =>
       clear H'
       try clear c1
       try clear p2
       try clear p3
       try clear q3
       try clear hx3
       try clear c4
       try clear c4b0
       try clear p6
       try clear c7
       try clear c8
       try clear c8b0
       try clear c9
       try clear c9b0
       try clear c10
       try clear c10b0
       try clear c10b1
       try clear c11
       try clear c12
       try clear c12b0
       try clear c12b1
       try clear hcz11_0
       try clear hcz11_1
       try clear hcz11_2
       try clear hcz11_3
       try clear hcz11_4
       try clear hcz13_0
       try clear hcz13_1
       try clear hcz13_2
       try clear hcz13_3
       try clear hcz13_4
       try clear hcz14_0
       try clear hcz14_1
       try clear hcz14_2
       try clear hcz14_3
       try clear hcz14_4
       try clear hcz5_0
       try clear hcz5_1
       try clear hcz5_2
       try clear hcz5_3
       try clear hcz5_4
       try clear hcz6_0
       try clear hcz6_1
       try clear hcz6_2
       try clear hcz6_3
       try clear hcz6_4
       try clear hfz11_0
       try clear hfz11_1
       try clear hfz11_2
       try clear hfz11_3
       try clear hfz11_4
       try clear hfz13_0
       try clear hfz13_1
       try clear hfz13_2
       try clear hfz13_3
       try clear hfz13_4
       try clear hfz14_0
       try clear hfz14_1
       try clear hfz14_2
       try clear hfz14_3
       try clear hfz14_4
       try clear hfz5_0
       try clear hfz5_1
       try clear hfz5_2
       try clear hfz5_3
       try clear hfz5_4
       try clear hfz6_0
       try clear hfz6_1
       try clear hfz6_2
       try clear hfz6_3
       try clear hfz6_4
       try clear hx354_0
       try clear hx354_1
       try clear hx355_0
       try clear hx355_1
       try clear p2
       try clear p354
       try clear p355
       try clear q354
       try clear q355
       obtain ⟨x4_3, rfl, HA, HK3, BK353, HB⟩ := hrel
       cases gk with
       | zero => exact absurd HA.out (by simp [caravanlaw5_Great.l1])
       | succ k3 =>
        have H := HA.out
        clear HA
        simp only [caravanlaw5_Great.l1] at H
        have HC15 := Aside0.mk H
        clear H
        go_upto_region 7 with (fail)
        go_cut [42] (fun v42 wc => ∃ (kq : Nat) (x42_14 : Bool), v42 = .bool x42_14 ∧ Aside0 (caravanlaw5_Great.j3 kq x4_3 x42_14 a0_0 a0_1 l0_2 l0_3 a0_4 = some r) ∧ Aside0 (kq ≤ k3) ∧ Aside0 (wc.heap[gb353]? = some (.cells #[.int .i64 a0_0, .string a0_1, (.slice A0_2 l0_2.length c0_2), (.slice A0_3 l0_3.length c0_3), .int .i64 a0_4] 26 (0, 0))) ∧ Aside0 (Below w.heap.size w wc))
        case first =>
         have H := HC15.out
         clear HC15
         by_cases c16 : x4_3 < (l0_3.length : Int)
         ·rw [if_pos c16] at H
          have c16b0 : decide (x4_3 < (l0_3.length : Int)) = true := decide_eq_true c16
          clear c16
          (first | rw [c16b0] | (simp only [i64_w, i32_w]; rw [c16b0]) | skip)
          have H' := Aside0.mk H
          clear H
          have hcz17_0 : wr.cell? ⟨gb353, 0, none⟩ = some (.int .i64 a0_0) := (blk_cell BK353.out 0).trans rfl
          have hcz17_1 : wr.cell? ⟨gb353, 1, none⟩ = some (.string a0_1) := (blk_cell BK353.out 1).trans rfl
          have hcz17_2 : wr.cell? ⟨gb353, 2, none⟩ = some (.slice A0_2 l0_2.length c0_2) := (blk_cell BK353.out 2).trans rfl
          have hcz17_3 : wr.cell? ⟨gb353, 3, none⟩ = some (.slice A0_3 l0_3.length c0_3) := (blk_cell BK353.out 3).trans rfl
          have hcz17_4 : wr.cell? ⟨gb353, 4, none⟩ = some (.int .i64 a0_4) := (blk_cell BK353.out 4).trans rfl
          have hfz17_0 := blk_frozen BK353.out 0
          have hfz17_1 := blk_frozen BK353.out 1
          have hfz17_2 := blk_frozen BK353.out 2
          have hfz17_3 := blk_frozen BK353.out 3
          have hfz17_4 := blk_frozen BK353.out 4
          go_wp2
          go_meet
          case rel => exact ⟨_, (decide (x4_3 < 60)), (by first | rfl | (simp; done) | (simp [*]; done)), H', ⟨by have := HK1.out; have := HJ2.out; have := HK3.out; first | omega | exact Nat.le_refl _⟩, ⟨by (with_reducible repeat (first | refine blk_drewN ?_ _ | refine blk_drew ?_ | refine blk_alloc ?_ _)); exact BK353.out⟩, ⟨(q4_ HB.out GE353.out)⟩⟩
         ·rw [if_neg c16] at H
          have c16b0 : decide (x4_3 < (l0_3.length : Int)) = false := decide_eq_false c16
          clear c16
          (first | rw [c16b0] | (simp only [i64_w, i32_w]; rw [c16b0]) | skip)
          have H' := Aside0.mk H
          clear H
          have hcz18_0 : wr.cell? ⟨gb353, 0, none⟩ = some (.int .i64 a0_0) := (blk_cell BK353.out 0).trans rfl
          have hcz18_1 : wr.cell? ⟨gb353, 1, none⟩ = some (.string a0_1) := (blk_cell BK353.out 1).trans rfl
          have hcz18_2 : wr.cell? ⟨gb353, 2, none⟩ = some (.slice A0_2 l0_2.length c0_2) := (blk_cell BK353.out 2).trans rfl
          have hcz18_3 : wr.cell? ⟨gb353, 3, none⟩ = some (.slice A0_3 l0_3.length c0_3) := (blk_cell BK353.out 3).trans rfl
          have hcz18_4 : wr.cell? ⟨gb353, 4, none⟩ = some (.int .i64 a0_4) := (blk_cell BK353.out 4).trans rfl
          have hfz18_0 := blk_frozen BK353.out 0
          have hfz18_1 := blk_frozen BK353.out 1
          have hfz18_2 := blk_frozen BK353.out 2
          have hfz18_3 := blk_frozen BK353.out 3
          have hfz18_4 := blk_frozen BK353.out 4
          go_wp2
          go_meet
          case rel => exact ⟨_, (false), (by first | rfl | (simp; done) | (simp [*]; done)), H', ⟨by have := HK1.out; have := HJ2.out; have := HK3.out; first | omega | exact Nat.le_refl _⟩, ⟨by (with_reducible repeat (first | refine blk_drewN ?_ _ | refine blk_drew ?_ | refine blk_alloc ?_ _)); exact BK353.out⟩, ⟨(q4_ HB.out GE353.out)⟩⟩
        case rest =>
         clear HC15
         try clear c1
         try clear p2
         try clear p3
         try clear q3
         try clear hx3
         try clear c4
         try clear c4b0
         try clear p6
         try clear c7
         try clear c8
         try clear c8b0
         try clear c9
         try clear c9b0
         try clear c10
         try clear c10b0
         try clear c10b1
         try clear c11
         try clear c12
         try clear c12b0
         try clear c12b1
         try clear c16
         try clear c16b0
         try clear hcz11_0
         try clear hcz11_1
         try clear hcz11_2
         try clear hcz11_3
         try clear hcz11_4
         try clear hcz13_0
         try clear hcz13_1
         try clear hcz13_2
         try clear hcz13_3
         try clear hcz13_4
         try clear hcz14_0
         try clear hcz14_1
         try clear hcz14_2
         try clear hcz14_3
         try clear hcz14_4
         try clear hcz17_0
         try clear hcz17_1
         try clear hcz17_2
         try clear hcz17_3
         try clear hcz17_4
         try clear hcz18_0
         try clear hcz18_1
         try clear hcz18_2
         try clear hcz18_3
         try clear hcz18_4
         try clear hcz5_0
         try clear hcz5_1
         try clear hcz5_2
         try clear hcz5_3
         try clear hcz5_4
         try clear hcz6_0
         try clear hcz6_1
         try clear hcz6_2
         try clear hcz6_3
         try clear hcz6_4
         try clear hfz11_0
         try clear hfz11_1
         try clear hfz11_2
         try clear hfz11_3
         try clear hfz11_4
         try clear hfz13_0
         try clear hfz13_1
         try clear hfz13_2
         try clear hfz13_3
         try clear hfz13_4
         try clear hfz14_0
         try clear hfz14_1
         try clear hfz14_2
         try clear hfz14_3
         try clear hfz14_4
         try clear hfz17_0
         try clear hfz17_1
         try clear hfz17_2
         try clear hfz17_3
         try clear hfz17_4
         try clear hfz18_0
         try clear hfz18_1
         try clear hfz18_2
         try clear hfz18_3
         try clear hfz18_4
         try clear hfz5_0
         try clear hfz5_1
         try clear hfz5_2
         try clear hfz5_3
         try clear hfz5_4
         try clear hfz6_0
         try clear hfz6_1
         try clear hfz6_2
         try clear hfz6_3
         try clear hfz6_4
         try clear hx354_0
         try clear hx354_1
         try clear hx355_0
         try clear hx355_1
         try clear p2
         try clear p3
         try clear p354
         try clear p355
         try clear p6
         try clear q3
         try clear q354
         try clear q355
         obtain ⟨kq, x42_14, rfl, HA, HJ14, BK353, HB⟩ := hcut
         cases kq with
         | zero => exact absurd HA.out (by simp [caravanlaw5_Great.j3])
         | succ kj14 =>
          have H := HA.out
          clear HA
          simp only [caravanlaw5_Great.j3] at H
          by_cases c19 : x42_14 = true
          ·subst c19
           have H1 : (if 0 ≤ x4_3 then (if x4_3 < (l0_3.length : Int) then (if ((rdOf ByteArray.empty l0_3 x4_3).size : Int) > 400 then (some true) else (caravanlaw5_Great.l1 kj14 (wrap64 (x4_3 + 1)) a0_0 a0_1 l0_2 l0_3 a0_4)) else (none)) else (none)) = some r := by rw [if_pos rfl] at H; exact H
           clear H
           have H := H1
           clear H1
           by_cases c20 : 0 ≤ x4_3
           ·rw [if_pos c20] at H
            have c20b0 : decide (0 ≤ x4_3) = true := decide_eq_true c20
            clear c20
            by_cases c21 : x4_3 < (l0_3.length : Int)
            ·rw [if_pos c21] at H
             have c21b0 : decide (x4_3 < (l0_3.length : Int)) = true := decide_eq_true c21
             clear c21
             by_cases c22 : ((rdOf ByteArray.empty l0_3 x4_3).size : Int) > 400
             ·rw [if_pos c22] at H
              have c22b0 : decide (400 < ((rdOf ByteArray.empty l0_3 x4_3).size : Int)) = true := decide_eq_true c22
              have c22b1 : decide (400 < (rdOf ByteArray.empty l0_3 x4_3).size) = true := decide_eq_true (by omega)
              clear c22
              obtain rfl := Option.some.inj H
              have hcz23_0 : wc.cell? ⟨gb353, 0, none⟩ = some (.int .i64 a0_0) := (blk_cell BK353.out 0).trans rfl
              have hcz23_1 : wc.cell? ⟨gb353, 1, none⟩ = some (.string a0_1) := (blk_cell BK353.out 1).trans rfl
              have hcz23_2 : wc.cell? ⟨gb353, 2, none⟩ = some (.slice A0_2 l0_2.length c0_2) := (blk_cell BK353.out 2).trans rfl
              have hcz23_3 : wc.cell? ⟨gb353, 3, none⟩ = some (.slice A0_3 l0_3.length c0_3) := (blk_cell BK353.out 3).trans rfl
              have hcz23_4 : wc.cell? ⟨gb353, 4, none⟩ = some (.int .i64 a0_4) := (blk_cell BK353.out 4).trans rfl
              have hfz23_0 := blk_frozen BK353.out 0
              have hfz23_1 := blk_frozen BK353.out 1
              have hfz23_2 := blk_frozen BK353.out 2
              have hfz23_3 := blk_frozen BK353.out 3
              have hfz23_4 := blk_frozen BK353.out 4
              have p356 : 0 ≤ (x4_3 : Int) := of_decide_eq_true (by first | (with_reducible assumption) | assumption)
              have q356 : x4_3 < (l0_3.length : Int) := of_decide_eq_true (by first | (with_reducible assumption) | assumption)
              obtain ⟨ad356, e356, hx356_0⟩ := Kd.at_string HR0_3.out x4_3 p356 q356
              cases e356
              replace hx356_0 := (HB.out.cell (World.block_lt_of_cell? w _ hx356_0)).trans hx356_0
              replace p356 := eq_true p356
              replace q356 := eq_true q356
              go_wp2
              go_ret
              exact ⟨by first | rfl | (simp [errW_none, errW_some] <;> rfl) | (simp [*, errW_none, errW_some] <;> rfl), (q4_ HB.out GE353.out)⟩
             ·rw [if_neg c22] at H
              have c22b0 : decide (400 < ((rdOf ByteArray.empty l0_3 x4_3).size : Int)) = false := decide_eq_false c22
              have c22b1 : decide (400 < (rdOf ByteArray.empty l0_3 x4_3).size) = false := decide_eq_false (by omega)
              clear c22
              have H' := Aside0.mk H
              clear H
              have hcz24_0 : wc.cell? ⟨gb353, 0, none⟩ = some (.int .i64 a0_0) := (blk_cell BK353.out 0).trans rfl
              have hcz24_1 : wc.cell? ⟨gb353, 1, none⟩ = some (.string a0_1) := (blk_cell BK353.out 1).trans rfl
              have hcz24_2 : wc.cell? ⟨gb353, 2, none⟩ = some (.slice A0_2 l0_2.length c0_2) := (blk_cell BK353.out 2).trans rfl
              have hcz24_3 : wc.cell? ⟨gb353, 3, none⟩ = some (.slice A0_3 l0_3.length c0_3) := (blk_cell BK353.out 3).trans rfl
              have hcz24_4 : wc.cell? ⟨gb353, 4, none⟩ = some (.int .i64 a0_4) := (blk_cell BK353.out 4).trans rfl
              have hfz24_0 := blk_frozen BK353.out 0
              have hfz24_1 := blk_frozen BK353.out 1
              have hfz24_2 := blk_frozen BK353.out 2
              have hfz24_3 := blk_frozen BK353.out 3
              have hfz24_4 := blk_frozen BK353.out 4
              have p356 : 0 ≤ (x4_3 : Int) := of_decide_eq_true (by first | (with_reducible assumption) | assumption)
              have q356 : x4_3 < (l0_3.length : Int) := of_decide_eq_true (by first | (with_reducible assumption) | assumption)
              obtain ⟨ad356, e356, hx356_0⟩ := Kd.at_string HR0_3.out x4_3 p356 q356
              cases e356
              replace hx356_0 := (HB.out.cell (World.block_lt_of_cell? w _ hx356_0)).trans hx356_0
              replace p356 := eq_true p356
              replace q356 := eq_true q356
              go_wp2
              go_roundg kj14
              case measure => have := HK1.out; have := HJ2.out; have := HK3.out; have := HJ14.out; omega
              case rel => exact ⟨(wrap64 (x4_3 + 1)), (by first | rfl | (simp; done) | (simp [*]; done)), H', ⟨by have := HK1.out; have := HJ2.out; have := HK3.out; have := HJ14.out; omega⟩, ⟨by (with_reducible repeat (first | refine blk_drewN ?_ _ | refine blk_drew ?_ | refine blk_alloc ?_ _)); exact BK353.out⟩, ⟨(q4_ HB.out GE353.out)⟩⟩
            ·rw [if_neg c21] at H
             exact absurd H (by simp)
           ·rw [if_neg c20] at H
            exact absurd H (by simp)
          ·replace c19 := Bool.eq_false_iff.mpr c19
           subst c19
           have H1 : (if (a0_1.size : Int) > 1000 then (some true) else (if (l0_2.length : Int) > 50 then (some true) else (some (decide ((l0_3.length : Int) > 50))))) = some r := by rw [if_neg (show ¬ (false = true) by decide)] at H; exact H
           clear H
           have H := H1
           clear H1
           by_cases c25 : (a0_1.size : Int) > 1000
           ·rw [if_pos c25] at H
            have c25b0 : decide (1000 < (a0_1.size : Int)) = true := decide_eq_true c25
            have c25b1 : decide (1000 < a0_1.size) = true := decide_eq_true (by omega)
            clear c25
            obtain rfl := Option.some.inj H
            have hcz26_0 : wc.cell? ⟨gb353, 0, none⟩ = some (.int .i64 a0_0) := (blk_cell BK353.out 0).trans rfl
            have hcz26_1 : wc.cell? ⟨gb353, 1, none⟩ = some (.string a0_1) := (blk_cell BK353.out 1).trans rfl
            have hcz26_2 : wc.cell? ⟨gb353, 2, none⟩ = some (.slice A0_2 l0_2.length c0_2) := (blk_cell BK353.out 2).trans rfl
            have hcz26_3 : wc.cell? ⟨gb353, 3, none⟩ = some (.slice A0_3 l0_3.length c0_3) := (blk_cell BK353.out 3).trans rfl
            have hcz26_4 : wc.cell? ⟨gb353, 4, none⟩ = some (.int .i64 a0_4) := (blk_cell BK353.out 4).trans rfl
            have hfz26_0 := blk_frozen BK353.out 0
            have hfz26_1 := blk_frozen BK353.out 1
            have hfz26_2 := blk_frozen BK353.out 2
            have hfz26_3 := blk_frozen BK353.out 3
            have hfz26_4 := blk_frozen BK353.out 4
            go_wp2
            go_ret
            exact ⟨by first | rfl | (simp [errW_none, errW_some] <;> rfl) | (simp [*, errW_none, errW_some] <;> rfl), (q4_ HB.out GE353.out)⟩
           ·rw [if_neg c25] at H
            have c25b0 : decide (1000 < (a0_1.size : Int)) = false := decide_eq_false c25
            have c25b1 : decide (1000 < a0_1.size) = false := decide_eq_false (by omega)
            clear c25
            by_cases c27 : (l0_2.length : Int) > 50
            ·rw [if_pos c27] at H
             have c27b0 : decide (50 < (l0_2.length : Int)) = true := decide_eq_true c27
             have c27b1 : decide (50 < l0_2.length) = true := decide_eq_true (by omega)
             clear c27
             obtain rfl := Option.some.inj H
             have hcz28_0 : wc.cell? ⟨gb353, 0, none⟩ = some (.int .i64 a0_0) := (blk_cell BK353.out 0).trans rfl
             have hcz28_1 : wc.cell? ⟨gb353, 1, none⟩ = some (.string a0_1) := (blk_cell BK353.out 1).trans rfl
             have hcz28_2 : wc.cell? ⟨gb353, 2, none⟩ = some (.slice A0_2 l0_2.length c0_2) := (blk_cell BK353.out 2).trans rfl
             have hcz28_3 : wc.cell? ⟨gb353, 3, none⟩ = some (.slice A0_3 l0_3.length c0_3) := (blk_cell BK353.out 3).trans rfl
             have hcz28_4 : wc.cell? ⟨gb353, 4, none⟩ = some (.int .i64 a0_4) := (blk_cell BK353.out 4).trans rfl
             have hfz28_0 := blk_frozen BK353.out 0
             have hfz28_1 := blk_frozen BK353.out 1
             have hfz28_2 := blk_frozen BK353.out 2
             have hfz28_3 := blk_frozen BK353.out 3
             have hfz28_4 := blk_frozen BK353.out 4
             go_wp2
             go_ret
             exact ⟨by first | rfl | (simp [errW_none, errW_some] <;> rfl) | (simp [*, errW_none, errW_some] <;> rfl), (q4_ HB.out GE353.out)⟩
            ·rw [if_neg c27] at H
             have c27b0 : decide (50 < (l0_2.length : Int)) = false := decide_eq_false c27
             have c27b1 : decide (50 < l0_2.length) = false := decide_eq_false (by omega)
             clear c27
             obtain rfl := Option.some.inj H
             have hcz29_0 : wc.cell? ⟨gb353, 0, none⟩ = some (.int .i64 a0_0) := (blk_cell BK353.out 0).trans rfl
             have hcz29_1 : wc.cell? ⟨gb353, 1, none⟩ = some (.string a0_1) := (blk_cell BK353.out 1).trans rfl
             have hcz29_2 : wc.cell? ⟨gb353, 2, none⟩ = some (.slice A0_2 l0_2.length c0_2) := (blk_cell BK353.out 2).trans rfl
             have hcz29_3 : wc.cell? ⟨gb353, 3, none⟩ = some (.slice A0_3 l0_3.length c0_3) := (blk_cell BK353.out 3).trans rfl
             have hcz29_4 : wc.cell? ⟨gb353, 4, none⟩ = some (.int .i64 a0_4) := (blk_cell BK353.out 4).trans rfl
             have hfz29_0 := blk_frozen BK353.out 0
             have hfz29_1 := blk_frozen BK353.out 1
             have hfz29_2 := blk_frozen BK353.out 2
             have hfz29_3 := blk_frozen BK353.out 3
             have hfz29_4 := blk_frozen BK353.out 4
             go_wp2
             go_ret
             exact ⟨by first | rfl | (simp [errW_none, errW_some] <;> rfl) | (simp [*, errW_none, errW_some] <;> rfl), (q4_ HB.out GE353.out)⟩

end Go.Proofs.Ytbmimcpllpgcaaa.G
