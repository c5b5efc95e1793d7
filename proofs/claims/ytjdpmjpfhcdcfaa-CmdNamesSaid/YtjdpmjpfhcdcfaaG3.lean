/- What functions of the translation come to, and their calls' proofs; by a program of mine over the kit's print, with contracts given by hand beside. Conditions: where a plain function tells none, nothing is said. -/
import Derived.Test.YtjdpmjpfhcdcfaaG0
import Derived.Test.YtjdpmjpfhcdcfaaG2
namespace Go.Proofs.Ytjdpmjpfhcdcfaa.G
open Go.RowKit Go.Proofs.YtjdpmjpfhcdcfaaW.PrintWords Go.Proofs.YtjdpmjpfhcdcfaaW.PrintLast Go.Proofs.YtjdpmjpfhcdcfaaW.PrintMore
attribute [local go_sem] max2_int min2_int max_two min_two max_three min_three max_four min_four   -- for this text's walks alone
set_option linter.unusedVariables false
set_option linter.unusedSimpArgs false

/-! ### caravanref1_Check: function 10 -/
mutual
def caravanref1_Check.j0 : Nat → List ByteArray → Bool → Option (ByteArray × Int × Int × Int × Int × Int × Bool × Bool)
 | 0, _, _ => none
 | k + 1, x0, x16 => if x16 = true then (some ((⟨#[]⟩ : ByteArray), 0, 0, 0, 0, 0, false, false)) else (if 0 < (x0.length : Int) then ((caravanref1_Find.f k (rdOf ByteArray.empty x0 0)).bind fun bt124 => (if bt124.2.2.2.2.2.2.2 = true then (if (x0.length : Int) < bt124.2.1 then (caravanref1_Check.j1 k x0 true bt124.1 bt124.2.1 bt124.2.2.1 bt124.2.2.2.1 bt124.2.2.2.2.1 bt124.2.2.2.2.2.1 bt124.2.2.2.2.2.2.1) else (if bt124.2.2.1 > 0 then (caravanref1_Check.j1 k x0 (decide ((x0.length : Int) > bt124.2.2.1)) bt124.1 bt124.2.1 bt124.2.2.1 bt124.2.2.2.1 bt124.2.2.2.2.1 bt124.2.2.2.2.2.1 bt124.2.2.2.2.2.2.1) else (caravanref1_Check.j1 k x0 false bt124.1 bt124.2.1 bt124.2.2.1 bt124.2.2.2.1 bt124.2.2.2.2.1 bt124.2.2.2.2.2.1 bt124.2.2.2.2.2.2.1))) else (caravanref1_Check.j1 k x0 true bt124.1 bt124.2.1 bt124.2.2.1 bt124.2.2.2.1 bt124.2.2.2.2.1 bt124.2.2.2.2.2.1 bt124.2.2.2.2.2.2.1))) else (none))
def caravanref1_Check.j1 : Nat → List ByteArray → Bool → ByteArray → Int → Int → Int → Int → Int → Bool → Option (ByteArray × Int × Int × Int × Int × Int × Bool × Bool)
 | 0, _, _, _, _, _, _, _, _, _ => none
 | k + 1, x0, x45, x133000, x133001, x133002, x133003, x133004, x133005, x133006 => if x45 = true then (some ((⟨#[]⟩ : ByteArray), 0, 0, 0, 0, 0, false, false)) else (if x133000.toList = ([77, 83, 69, 84] : List UInt8) then (if ((x0.length : Int) % 2) = 0 then (caravanref1_Check.j2 k x0 true x133000 x133001 x133002 x133003 x133004 x133005 x133006) else (if x133000.toList = ([72, 83, 69, 84] : List UInt8) then (caravanref1_Check.j2 k x0 (!(((x0.length : Int) % 2) == 0)) x133000 x133001 x133002 x133003 x133004 x133005 x133006) else (caravanref1_Check.j2 k x0 false x133000 x133001 x133002 x133003 x133004 x133005 x133006))) else (if x133000.toList = ([77, 83, 69, 84, 78, 88] : List UInt8) then (if ((x0.length : Int) % 2) = 0 then (caravanref1_Check.j2 k x0 true x133000 x133001 x133002 x133003 x133004 x133005 x133006) else (if x133000.toList = ([72, 83, 69, 84] : List UInt8) then (caravanref1_Check.j2 k x0 (!(((x0.length : Int) % 2) == 0)) x133000 x133001 x133002 x133003 x133004 x133005 x133006) else (caravanref1_Check.j2 k x0 false x133000 x133001 x133002 x133003 x133004 x133005 x133006))) else (if x133000.toList = ([72, 83, 69, 84] : List UInt8) then (caravanref1_Check.j2 k x0 (!(((x0.length : Int) % 2) == 0)) x133000 x133001 x133002 x133003 x133004 x133005 x133006) else (caravanref1_Check.j2 k x0 false x133000 x133001 x133002 x133003 x133004 x133005 x133006))))
def caravanref1_Check.j2 : Nat → List ByteArray → Bool → ByteArray → Int → Int → Int → Int → Int → Bool → Option (ByteArray × Int × Int × Int × Int × Int × Bool × Bool)
 | 0, _, _, _, _, _, _, _, _, _ => none
 | k + 1, x0, x70, x133000, x133001, x133002, x133003, x133004, x133005, x133006 => if x70 = true then (some ((⟨#[]⟩ : ByteArray), 0, 0, 0, 0, 0, false, false)) else ((caravanref1_keys.f k x133000 x133001 x133002 x133003 x133004 x133005 x133006 x0).bind fun t133 => (caravanref1_Check.l0 k t133 0 x133000 x133001 x133002 x133003 x133004 x133005 x133006))
def caravanref1_Check.l0 : Nat → List ByteArray → Int → ByteArray → Int → Int → Int → Int → Int → Bool → Option (ByteArray × Int × Int × Int × Int × Int × Bool × Bool)
 | 0, _, _, _, _, _, _, _, _, _ => none
 | k + 1, x7, x8, x133000, x133001, x133002, x133003, x133004, x133005, x133006 => if x8 < (x7.length : Int) then (if 0 ≤ x8 then (if ((rdOf ByteArray.empty x7 x8).size : Int) > 40 then (some ((⟨#[]⟩ : ByteArray), 0, 0, 0, 0, 0, false, false)) else (caravanref1_Check.l0 k x7 (wrap64 (x8 + 1)) x133000 x133001 x133002 x133003 x133004 x133005 x133006)) else (none)) else (some (x133000, x133001, x133002, x133003, x133004, x133005, x133006, true))
end
def caravanref1_Check.f (k : Nat) (l0 : List ByteArray) : Option (ByteArray × Int × Int × Int × Int × Int × Bool × Bool) := if (l0.length : Int) = 0 then (caravanref1_Check.j0 k l0 true) else (caravanref1_Check.j0 k l0 (decide ((l0.length : Int) > 100)))
theorem caravanref1_Check.mono_l : ∀ k, (∀ y0 y1, LeO (caravanref1_Check.j0 k y0 y1) (caravanref1_Check.j0 (k + 1) y0 y1)) ∧ (∀ y0 y1 y2 y3 y4 y5 y6 y7 y8, LeO (caravanref1_Check.j1 k y0 y1 y2 y3 y4 y5 y6 y7 y8) (caravanref1_Check.j1 (k + 1) y0 y1 y2 y3 y4 y5 y6 y7 y8)) ∧ (∀ y0 y1 y2 y3 y4 y5 y6 y7 y8, LeO (caravanref1_Check.j2 k y0 y1 y2 y3 y4 y5 y6 y7 y8) (caravanref1_Check.j2 (k + 1) y0 y1 y2 y3 y4 y5 y6 y7 y8)) ∧ (∀ y0 y1 y2 y3 y4 y5 y6 y7 y8, LeO (caravanref1_Check.l0 k y0 y1 y2 y3 y4 y5 y6 y7 y8) (caravanref1_Check.l0 (k + 1) y0 y1 y2 y3 y4 y5 y6 y7 y8))
 | 0 => ⟨fun _ _ r h => by simp [caravanref1_Check.j0] at h, fun _ _ _ _ _ _ _ _ _ r h => by simp [caravanref1_Check.j1] at h, fun _ _ _ _ _ _ _ _ _ r h => by simp [caravanref1_Check.j2] at h, fun _ _ _ _ _ _ _ _ _ r h => by simp [caravanref1_Check.l0] at h⟩
 | k + 1 => by
  obtain ⟨ih0, ih1, ih2, ih3⟩ := caravanref1_Check.mono_l k
  refine ⟨?_, ?_, ?_, ?_⟩
  ·intro y0 y1
   unfold caravanref1_Check.j0
   repeat' first
   | (with_reducible exact ih0 _ _)
   | (with_reducible exact ih1 _ _ _ _ _ _ _ _ _)
   | (with_reducible exact ih2 _ _ _ _ _ _ _ _ _)
   | (with_reducible exact ih3 _ _ _ _ _ _ _ _ _)
   | (with_reducible exact caravanref1_Find.mono _ _)
   | (with_reducible exact caravanref1_keys.mono _ _ _ _ _ _ _ _ _)
   | (with_reducible exact LeO.refl _)
   | (with_reducible exact LeO.none _)
   | (with_reducible refine LeO.ite ?_ ?_)
   | (with_reducible refine LeO.bind ?_ (fun _ => ?_))
   | exact ih0 _ _
   | exact ih1 _ _ _ _ _ _ _ _ _
   | exact ih2 _ _ _ _ _ _ _ _ _
   | exact ih3 _ _ _ _ _ _ _ _ _
   | exact caravanref1_Find.mono _ _
   | exact caravanref1_keys.mono _ _ _ _ _ _ _ _ _
   | exact LeO.none _
   | refine LeO.ite ?_ ?_
   | refine LeO.bind ?_ (fun _ => ?_)
  ·intro y0 y1 y2 y3 y4 y5 y6 y7 y8
   unfold caravanref1_Check.j1
   repeat' first
   | (with_reducible exact ih0 _ _)
   | (with_reducible exact ih1 _ _ _ _ _ _ _ _ _)
   | (with_reducible exact ih2 _ _ _ _ _ _ _ _ _)
   | (with_reducible exact ih3 _ _ _ _ _ _ _ _ _)
   | (with_reducible exact caravanref1_Find.mono _ _)
   | (with_reducible exact caravanref1_keys.mono _ _ _ _ _ _ _ _ _)
   | (with_reducible exact LeO.refl _)
   | (with_reducible exact LeO.none _)
   | (with_reducible refine LeO.ite ?_ ?_)
   | (with_reducible refine LeO.bind ?_ (fun _ => ?_))
   | exact ih0 _ _
   | exact ih1 _ _ _ _ _ _ _ _ _
   | exact ih2 _ _ _ _ _ _ _ _ _
   | exact ih3 _ _ _ _ _ _ _ _ _
   | exact caravanref1_Find.mono _ _
   | exact caravanref1_keys.mono _ _ _ _ _ _ _ _ _
   | exact LeO.none _
   | refine LeO.ite ?_ ?_
   | refine LeO.bind ?_ (fun _ => ?_)
  ·intro y0 y1 y2 y3 y4 y5 y6 y7 y8
   unfold caravanref1_Check.j2
   repeat' first
   | (with_reducible exact ih0 _ _)
   | (with_reducible exact ih1 _ _ _ _ _ _ _ _ _)
   | (with_reducible exact ih2 _ _ _ _ _ _ _ _ _)
   | (with_reducible exact ih3 _ _ _ _ _ _ _ _ _)
   | (with_reducible exact caravanref1_Find.mono _ _)
   | (with_reducible exact caravanref1_keys.mono _ _ _ _ _ _ _ _ _)
   | (with_reducible exact LeO.refl _)
   | (with_reducible exact LeO.none _)
   | (with_reducible refine LeO.ite ?_ ?_)
   | (with_reducible refine LeO.bind ?_ (fun _ => ?_))
   | exact ih0 _ _
   | exact ih1 _ _ _ _ _ _ _ _ _
   | exact ih2 _ _ _ _ _ _ _ _ _
   | exact ih3 _ _ _ _ _ _ _ _ _
   | exact caravanref1_Find.mono _ _
   | exact caravanref1_keys.mono _ _ _ _ _ _ _ _ _
   | exact LeO.none _
   | refine LeO.ite ?_ ?_
   | refine LeO.bind ?_ (fun _ => ?_)
  ·intro y0 y1 y2 y3 y4 y5 y6 y7 y8
   unfold caravanref1_Check.l0
   repeat' first
   | (with_reducible exact ih0 _ _)
   | (with_reducible exact ih1 _ _ _ _ _ _ _ _ _)
   | (with_reducible exact ih2 _ _ _ _ _ _ _ _ _)
   | (with_reducible exact ih3 _ _ _ _ _ _ _ _ _)
   | (with_reducible exact caravanref1_Find.mono _ _)
   | (with_reducible exact caravanref1_keys.mono _ _ _ _ _ _ _ _ _)
   | (with_reducible exact LeO.refl _)
   | (with_reducible exact LeO.none _)
   | (with_reducible refine LeO.ite ?_ ?_)
   | (with_reducible refine LeO.bind ?_ (fun _ => ?_))
   | exact ih0 _ _
   | exact ih1 _ _ _ _ _ _ _ _ _
   | exact ih2 _ _ _ _ _ _ _ _ _
   | exact ih3 _ _ _ _ _ _ _ _ _
   | exact caravanref1_Find.mono _ _
   | exact caravanref1_keys.mono _ _ _ _ _ _ _ _ _
   | exact LeO.none _
   | refine LeO.ite ?_ ?_
   | refine LeO.bind ?_ (fun _ => ?_)
theorem caravanref1_Check.mono : ∀ a0 k, LeO (caravanref1_Check.f k a0) (caravanref1_Check.f (k + 1) a0) := by
 intro a0 k
 obtain ⟨ih0, ih1, ih2, ih3⟩ := caravanref1_Check.mono_l k
 unfold caravanref1_Check.f
 repeat' first
  | (with_reducible exact ih0 _ _)
  | (with_reducible exact ih1 _ _ _ _ _ _ _ _ _)
  | (with_reducible exact ih2 _ _ _ _ _ _ _ _ _)
  | (with_reducible exact ih3 _ _ _ _ _ _ _ _ _)
  | (with_reducible exact caravanref1_Find.mono _ _)
  | (with_reducible exact caravanref1_keys.mono _ _ _ _ _ _ _ _ _)
  | (with_reducible exact LeO.refl _)
  | (with_reducible exact LeO.none _)
  | (with_reducible refine LeO.ite ?_ ?_)
  | (with_reducible refine LeO.bind ?_ (fun _ => ?_))
  | exact ih0 _ _
  | exact ih1 _ _ _ _ _ _ _ _ _
  | exact ih2 _ _ _ _ _ _ _ _ _
  | exact ih3 _ _ _ _ _ _ _ _ _
  | exact caravanref1_Find.mono _ _
  | exact caravanref1_keys.mono _ _ _ _ _ _ _ _ _
  | exact LeO.none _
  | refine LeO.ite ?_ ?_
  | refine LeO.bind ?_ (fun _ => ?_)
set_option maxHeartbeats 8000000 in
set_option maxRecDepth 100000 in
theorem caravanref1_Check.calls (k : Nat) (A0 : Option Addr) (c0 : Nat) (l0 : List ByteArray) (r1 : ByteArray) (r2 : Int) (r3 : Int) (r4 : Int) (r5 : Int) (r6 : Int) (r7 : Bool) (r8 : Bool) (w : World) (hr0 : Kd.C Kd.string w A0 l0.length l0) (hc0 : l0.length ≤ c0) (h : caravanref1_Check.f k l0 = some (r1, r2, r3, r4, r5, r6, r7, r8)) :
 Calls Try.prog 10 #[.slice A0 l0.length c0] w fun e w' => e = .returned (.tuple #[.agg #[.string r1, .int .i64 r2, .int .i64 r3, .int .i64 r4, .int .i64 r5, .int .i64 r6, .bool r7], .bool r8]) ∧ Below w.heap.size w w' := by
 have hu26 := Try.underlying26
 have HR0 := Aside0.mk hr0
 have HC0 := Aside0.mk hc0
 clear hr0 hc0
 have HB := Aside0.mk (Below.refl w.heap.size w)
 have H : (if (l0.length : Int) = 0 then (caravanref1_Check.j0 k l0 true) else (caravanref1_Check.j0 k l0 (decide ((l0.length : Int) > 100)))) = some (r1, r2, r3, r4, r5, r6, r7, r8) := h
 clear h
 have HC2 := Aside0.mk H
 clear H
 go_enter Try.func10, Try.ntmps10
 go_upto_region 1 with (first | ((with_reducible refine gate_dst (N := 2) rfl ?_); (try (refine gate_guard (by rfl) ?_; dsimp only)); refine box_event ?hg (N := 2) ?hd (cs := #[.string (⟨#[]⟩ : ByteArray), .int .i64 0, .int .i64 0, .int .i64 0, .int .i64 0, .int .i64 0, .bool false]) (t := 26) ?hr ?_; (case hd => rfl); (case hg => rfl); (case hr => first | (go_simp; done) | (go_simp; rfl)); intro gb122 hg w3 hbox hb; have n0_ := Aside0.mk (below_step (qdb35_ HB.out) hb); have n1_ := Aside0.mk (hbox); have n2_ := Aside0.mk ((by rw [hg]; exact (below_size (qdb35_ HB.out)) : w.heap.size ≤ gb122)); have n3_ := Aside0.mk ((by rw [hg]; exact (below_size (qdb35_ HB.out)) : w.heap.size ≤ gb122)); clear HB; have HB := n0_; have BK122 := n1_; have GW122 := n2_; have GE122 := n3_; clear n0_ n1_ n2_ n3_; clear hb hbox hg))
 (try simp only [Act.put, List.setIfInBounds_toArray, List.set_cons_zero, List.set_cons_succ])
 go_cut [16] (fun v16 wc => ∃ (kq : Nat) (x16_1 : Bool), v16 = .bool x16_1 ∧ Aside0 (caravanref1_Check.j0 kq l0 x16_1 = some (r1, r2, r3, r4, r5, r6, r7, r8)) ∧ Aside0 (kq ≤ k) ∧ Aside0 (wc.heap[gb122]? = some (.cells #[.string (⟨#[]⟩ : ByteArray), .int .i64 0, .int .i64 0, .int .i64 0, .int .i64 0, .int .i64 0, .bool false] 26 (0, 0))) ∧ Aside0 (Below w.heap.size w wc))
 case first =>
  have H := HC2.out
  clear HC2
  by_cases c4 : (l0.length : Int) = 0
  ·rw [if_pos c4] at H
   have c4b0 : ((l0.length : Int) == 0) = true := beq_iff_eq.mpr c4
   have c4b1 : ((l0.length : Int) != 0) = false := bne_eq_false_iff_eq.mpr c4
   clear c4
   (first | rw [c4b0] | (simp only [i64_w, i32_w]; rw [c4b0]) | skip)
   have H' := Aside0.mk H
   clear H
   go_wp2
   go_meet
   case rel => exact ⟨_, (true), (by first | rfl | (simp; done) | (simp [*]; done)), H', ⟨by first | omega | exact Nat.le_refl _⟩, ⟨by (with_reducible repeat (first | refine blk_drewN ?_ _ | refine blk_drew ?_ | refine blk_alloc ?_ _)); exact BK122.out⟩, ⟨(qed14_ HB.out GE122.out)⟩⟩
  ·rw [if_neg c4] at H
   have c4b0 : ((l0.length : Int) == 0) = false := beq_eq_false_iff_ne.mpr c4
   have c4b1 : ((l0.length : Int) != 0) = true := bne_iff_ne.mpr c4
   have c4b2 : ¬ (l0 = []) := fun h_ => c4 (by rw [h_]; rfl)
   (first | rw [c4b0] | (simp only [i64_w, i32_w]; rw [c4b0]) | skip)
   have H' := Aside0.mk H
   clear H
   go_wp2
   go_meet
   case rel => exact ⟨_, (decide ((l0.length : Int) > 100)), (by first | rfl | (simp; done) | (simp [*]; done)), H', ⟨by first | omega | exact Nat.le_refl _⟩, ⟨by (with_reducible repeat (first | refine blk_drewN ?_ _ | refine blk_drew ?_ | refine blk_alloc ?_ _)); exact BK122.out⟩, ⟨(qed14_ HB.out GE122.out)⟩⟩
 case rest =>
  clear HC2
  try clear c1
  try clear p2
  try clear c4
  try clear c4b0
  try clear c4b1
  try clear c4b2
  obtain ⟨kq, x16_1, rfl, HA, HJ1, BK122, HB⟩ := hcut
  cases kq with
  | zero => exact absurd HA.out (by simp [caravanref1_Check.j0])
  | succ kj1 =>
   have H := HA.out
   clear HA
   simp only [caravanref1_Check.j0] at H
   by_cases c5 : x16_1 = true
   ·subst c5
    have H1 : (some ((⟨#[]⟩ : ByteArray), 0, 0, 0, 0, 0, false, false)) = some (r1, r2, r3, r4, r5, r6, r7, r8) := by rw [if_pos rfl] at H; exact H
    clear H
    have H := H1
    clear H1
    simp only [Option.some.injEq, Prod.mk.injEq] at H
    obtain ⟨rfl, rfl, rfl, rfl, rfl, rfl, rfl, rfl⟩ := H
    have hcz6_0 : wc.cell? ⟨gb122, 0, none⟩ = some (.string (⟨#[]⟩ : ByteArray)) := (blk_cell BK122.out 0).trans rfl
    have hcz6_1 : wc.cell? ⟨gb122, 1, none⟩ = some (.int .i64 0) := (blk_cell BK122.out 1).trans rfl
    have hcz6_2 : wc.cell? ⟨gb122, 2, none⟩ = some (.int .i64 0) := (blk_cell BK122.out 2).trans rfl
    have hcz6_3 : wc.cell? ⟨gb122, 3, none⟩ = some (.int .i64 0) := (blk_cell BK122.out 3).trans rfl
    have hcz6_4 : wc.cell? ⟨gb122, 4, none⟩ = some (.int .i64 0) := (blk_cell BK122.out 4).trans rfl
    have hcz6_5 : wc.cell? ⟨gb122, 5, none⟩ = some (.int .i64 0) := (blk_cell BK122.out 5).trans rfl
    have hcz6_6 : wc.cell? ⟨gb122, 6, none⟩ = some (.bool false) := (blk_cell BK122.out 6).trans rfl
    have hfz6_0 := blk_frozen BK122.out 0
    have hfz6_1 := blk_frozen BK122.out 1
    have hfz6_2 := blk_frozen BK122.out 2
    have hfz6_3 := blk_frozen BK122.out 3
    have hfz6_4 := blk_frozen BK122.out 4
    have hfz6_5 := blk_frozen BK122.out 5
    have hfz6_6 := blk_frozen BK122.out 6
    go_wp2
    refine bodyPost_ret (results_ct rfl _ _ gb122 26 #[.string (⟨#[]⟩ : ByteArray), .int .i64 0, .int .i64 0, .int .i64 0, .int .i64 0, .int .i64 0, .bool false] (0, 0) _ rfl (by (with_reducible repeat (first | refine blk_drewN ?_ _ | refine blk_drew ?_ | refine blk_alloc ?_ _)); refine blk_put (cs := #[.string (⟨#[]⟩ : ByteArray), .int .i64 0, .int .i64 0, .int .i64 0, .int .i64 0, .int .i64 0, .bool false]) ?_ 6 _ rfl; (with_reducible repeat (first | refine blk_drewN ?_ _ | refine blk_drew ?_ | refine blk_alloc ?_ _)); refine blk_put (cs := #[.string (⟨#[]⟩ : ByteArray), .int .i64 0, .int .i64 0, .int .i64 0, .int .i64 0, .int .i64 0, .bool false]) ?_ 5 _ rfl; (with_reducible repeat (first | refine blk_drewN ?_ _ | refine blk_drew ?_ | refine blk_alloc ?_ _)); refine blk_put (cs := #[.string (⟨#[]⟩ : ByteArray), .int .i64 0, .int .i64 0, .int .i64 0, .int .i64 0, .int .i64 0, .bool false]) ?_ 4 _ rfl; (with_reducible repeat (first | refine blk_drewN ?_ _ | refine blk_drew ?_ | refine blk_alloc ?_ _)); refine blk_put (cs := #[.string (⟨#[]⟩ : ByteArray), .int .i64 0, .int .i64 0, .int .i64 0, .int .i64 0, .int .i64 0, .bool false]) ?_ 3 _ rfl; (with_reducible repeat (first | refine blk_drewN ?_ _ | refine blk_drew ?_ | refine blk_alloc ?_ _)); refine blk_put (cs := #[.string (⟨#[]⟩ : ByteArray), .int .i64 0, .int .i64 0, .int .i64 0, .int .i64 0, .int .i64 0, .bool false]) ?_ 2 _ rfl; (with_reducible repeat (first | refine blk_drewN ?_ _ | refine blk_drew ?_ | refine blk_alloc ?_ _)); refine blk_put (cs := #[.string (⟨#[]⟩ : ByteArray), .int .i64 0, .int .i64 0, .int .i64 0, .int .i64 0, .int .i64 0, .bool false]) ?_ 1 _ rfl; (with_reducible repeat (first | refine blk_drewN ?_ _ | refine blk_drew ?_ | refine blk_alloc ?_ _)); refine blk_put (cs := #[.string (⟨#[]⟩ : ByteArray), .int .i64 0, .int .i64 0, .int .i64 0, .int .i64 0, .int .i64 0, .bool false]) ?_ 0 _ rfl; (with_reducible repeat (first | refine blk_drewN ?_ _ | refine blk_drew ?_ | refine blk_alloc ?_ _)); exact BK122.out) Try.underlying26 rfl (by kernel_rfl)) rfl ?_
    exact ⟨by first | rfl | (simp [errW_none, errW_some] <;> rfl) | (simp [*, errW_none, errW_some] <;> rfl), (qed14_ HB.out GE122.out)⟩
   ·replace c5 := Bool.eq_false_iff.mpr c5
    subst c5
    have H1 : (if 0 < (l0.length : Int) then ((caravanref1_Find.f kj1 (rdOf ByteArray.empty l0 0)).bind fun bt124 => (if bt124.2.2.2.2.2.2.2 = true then (if (l0.length : Int) < bt124.2.1 then (caravanref1_Check.j1 kj1 l0 true bt124.1 bt124.2.1 bt124.2.2.1 bt124.2.2.2.1 bt124.2.2.2.2.1 bt124.2.2.2.2.2.1 bt124.2.2.2.2.2.2.1) else (if bt124.2.2.1 > 0 then (caravanref1_Check.j1 kj1 l0 (decide ((l0.length : Int) > bt124.2.2.1)) bt124.1 bt124.2.1 bt124.2.2.1 bt124.2.2.2.1 bt124.2.2.2.2.1 bt124.2.2.2.2.2.1 bt124.2.2.2.2.2.2.1) else (caravanref1_Check.j1 kj1 l0 false bt124.1 bt124.2.1 bt124.2.2.1 bt124.2.2.2.1 bt124.2.2.2.2.1 bt124.2.2.2.2.2.1 bt124.2.2.2.2.2.2.1))) else (caravanref1_Check.j1 kj1 l0 true bt124.1 bt124.2.1 bt124.2.2.1 bt124.2.2.2.1 bt124.2.2.2.2.1 bt124.2.2.2.2.2.1 bt124.2.2.2.2.2.2.1))) else (none)) = some (r1, r2, r3, r4, r5, r6, r7, r8) := by rw [if_neg (show ¬ (false = true) by decide)] at H; exact H
    clear H
    have H := H1
    clear H1
    by_cases c7 : 0 < (l0.length : Int)
    ·rw [if_pos c7] at H
     have c7b0 : decide (0 < (l0.length : Int)) = true := decide_eq_true c7
     have c7b1 : decide (0 < l0.length) = true := decide_eq_true (by omega)
     clear c7
     replace H := Option.bind_eq_some_iff.mp H
     obtain ⟨⟨t124, t125, t126, t127, t128, t129, t130, t131⟩, A80, H⟩ := H
     replace H : (if t131 = true then (if (l0.length : Int) < t125 then (caravanref1_Check.j1 kj1 l0 true t124 t125 t126 t127 t128 t129 t130) else (if t126 > 0 then (caravanref1_Check.j1 kj1 l0 (decide ((l0.length : Int) > t126)) t124 t125 t126 t127 t128 t129 t130) else (caravanref1_Check.j1 kj1 l0 false t124 t125 t126 t127 t128 t129 t130))) else (caravanref1_Check.j1 kj1 l0 true t124 t125 t126 t127 t128 t129 t130)) = some (r1, r2, r3, r4, r5, r6, r7, r8) := H
     have A8 := Aside0.mk A80
     clear A80
     have HC9 := Aside0.mk H
     clear H
     have p123 : 0 ≤ (0 : Int) := (by omega)
     have q123 : 0 < (l0.length : Int) := of_decide_eq_true (by first | (with_reducible assumption) | assumption)
     obtain ⟨ad123, e123, hx123_0⟩ := Kd.at_string HR0.out 0 p123 q123
     cases e123
     have qi123 : (0 < l0.length) = True := eq_true (by omega)
     (try rw [show ((0 : Int)).toNat = 0 from rfl] at hx123_0)
     (try rw [Addr.add_zero'] at hx123_0)
     replace hx123_0 := (HB.out.cell (World.block_lt_of_cell? w _ hx123_0)).trans hx123_0
     replace p123 := eq_true p123
     replace q123 := eq_true q123
     go_upto_region 4 with (first | ((with_reducible refine gate_callee (f := 12) rfl ?_); refine goesL_ (some 22) rfl rfl Try.func12 (by kernel_rfl) rfl #[.string (rdOf ByteArray.empty l0 0)] rfl qM_ ?_; (with_reducible refine (caravanref1_Find.calls kj1 (rdOf ByteArray.empty l0 0) t124 t125 t126 t127 t128 t129 t130 t131 _ A8.out).mono ?_); rintro e w10 ⟨rfl, hb⟩; refine ⟨_, rfl, ?_⟩; have n0_ := Aside0.mk (blk_below (g := gb122) (o := .cells #[.string (⟨#[]⟩ : ByteArray), .int .i64 0, .int .i64 0, .int .i64 0, .int .i64 0, .int .i64 0, .bool false] 26 (0, 0)) (q1466_ BK122.out) hb); have n1_ := Aside0.mk (below_step (qed14_ HB.out GE122.out) hb); clear BK122; clear HB; have BK122 := n0_; have HB := n1_; clear n0_ n1_; (try clear hb); (try clear hb2); (try clear hk); (try clear hi)) | ((with_reducible refine gate_dst (N := 4) rfl ?_); (try (refine gate_guard (by rfl) ?_; dsimp only)); refine box_event ?hg (N := 4) ?hd (cs := #[.string (⟨#[]⟩ : ByteArray), .int .i64 0, .int .i64 0, .int .i64 0, .int .i64 0, .int .i64 0, .bool false]) (t := 26) ?hr ?_; (case hd => rfl); (case hg => rfl); (case hr => first | (go_simp; done) | (go_simp; rfl)); intro gb132 hg w11 hbox hb; have n0_ := Aside0.mk (blk_below (g := gb122) (o := .cells #[.string (⟨#[]⟩ : ByteArray), .int .i64 0, .int .i64 0, .int .i64 0, .int .i64 0, .int .i64 0, .bool false] 26 (0, 0)) (q1466_ BK122.out) hb); have n1_ := Aside0.mk (below_step (qed14_ HB.out GE122.out) hb); have n2_ := Aside0.mk (hbox); have n3_ := Aside0.mk ((by rw [hg]; exact (below_size (qed14_ HB.out GE122.out)) : w.heap.size ≤ gb132)); have n4_ := Aside0.mk ((by rw [hg]; exact (below_size (qed14_ HB.out GE122.out)) : w.heap.size ≤ gb132)); have n5_ := Aside0.mk ((by rw [hg]; exact Nat.ne_of_lt (blk_lt (g := gb122) (o := .cells #[.string (⟨#[]⟩ : ByteArray), .int .i64 0, .int .i64 0, .int .i64 0, .int .i64 0, .int .i64 0, .bool false] 26 (0, 0)) (q1466_ BK122.out)) : gb122 ≠ gb132)); have n6_ := Aside0.mk ((by rw [hg]; exact Nat.ne_of_gt (blk_lt (g := gb122) (o := .cells #[.string (⟨#[]⟩ : ByteArray), .int .i64 0, .int .i64 0, .int .i64 0, .int .i64 0, .int .i64 0, .bool false] 26 (0, 0)) (q1466_ BK122.out)) : gb132 ≠ gb122)); clear BK122; clear HB; have BK122 := n0_; have HB := n1_; have BK132 := n2_; have GW132 := n3_; have GE132 := n4_; have NB122_132 := n5_; have NB132_122 := n6_; clear n0_ n1_ n2_ n3_ n4_ n5_ n6_; clear hb hbox hg; have hnb12 := NB132_122.out; have hnc12 := NB122_132.out; have hcz13_0 : w11.cell? ⟨gb132, 0, none⟩ = some (.string (⟨#[]⟩ : ByteArray)) := (blk_cell BK132.out 0).trans rfl; have hcz13_1 : w11.cell? ⟨gb132, 1, none⟩ = some (.int .i64 0) := (blk_cell BK132.out 1).trans rfl; have hcz13_2 : w11.cell? ⟨gb132, 2, none⟩ = some (.int .i64 0) := (blk_cell BK132.out 2).trans rfl; have hcz13_3 : w11.cell? ⟨gb132, 3, none⟩ = some (.int .i64 0) := (blk_cell BK132.out 3).trans rfl; have hcz13_4 : w11.cell? ⟨gb132, 4, none⟩ = some (.int .i64 0) := (blk_cell BK132.out 4).trans rfl; have hcz13_5 : w11.cell? ⟨gb132, 5, none⟩ = some (.int .i64 0) := (blk_cell BK132.out 5).trans rfl; have hcz13_6 : w11.cell? ⟨gb132, 6, none⟩ = some (.bool false) := (blk_cell BK132.out 6).trans rfl; have hfz13_0 := blk_frozen BK132.out 0; have hfz13_1 := blk_frozen BK132.out 1; have hfz13_2 := blk_frozen BK132.out 2; have hfz13_3 := blk_frozen BK132.out 3; have hfz13_4 := blk_frozen BK132.out 4; have hfz13_5 := blk_frozen BK132.out 5; have hfz13_6 := blk_frozen BK132.out 6))
     (try simp only [Act.put, List.setIfInBounds_toArray, List.set_cons_zero, List.set_cons_succ])
     go_cut [45] (fun v45 wc => ∃ (kq : Nat) (x45_8 : Bool), v45 = .bool x45_8 ∧ Aside0 (caravanref1_Check.j1 kq l0 x45_8 t124 t125 t126 t127 t128 t129 t130 = some (r1, r2, r3, r4, r5, r6, r7, r8)) ∧ Aside0 (kq ≤ kj1) ∧ Aside0 (wc.heap[gb122]? = some (.cells #[.string (⟨#[]⟩ : ByteArray), .int .i64 0, .int .i64 0, .int .i64 0, .int .i64 0, .int .i64 0, .bool false] 26 (0, 0))) ∧ Aside0 (wc.heap[gb132]? = some (.cells #[.string t124, .int .i64 t125, .int .i64 t126, .int .i64 t127, .int .i64 t128, .int .i64 t129, .bool t130] 26 (0, 0))) ∧ Aside0 (Below w.heap.size w wc))
     case first =>
      have H := HC9.out
      clear HC9
      by_cases c14 : t131 = true
      ·subst c14
       have H1 : (if (l0.length : Int) < t125 then (caravanref1_Check.j1 kj1 l0 true t124 t125 t126 t127 t128 t129 t130) else (if t126 > 0 then (caravanref1_Check.j1 kj1 l0 (decide ((l0.length : Int) > t126)) t124 t125 t126 t127 t128 t129 t130) else (caravanref1_Check.j1 kj1 l0 false t124 t125 t126 t127 t128 t129 t130))) = some (r1, r2, r3, r4, r5, r6, r7, r8) := by rw [if_pos rfl] at H; exact H
       clear H
       have H := H1
       clear H1
       by_cases c15 : (l0.length : Int) < t125
       ·rw [if_pos c15] at H
        have c15b0 : decide ((l0.length : Int) < t125) = true := decide_eq_true c15
        clear c15
        (first | rw [c15b0] | (simp only [i64_w, i32_w]; rw [c15b0]) | skip)
        have H' := Aside0.mk H
        clear H
        have hnb16 := NB132_122.out
        have hnc16 := NB122_132.out
        have hcz17_0 : w11.cell? ⟨gb132, 0, none⟩ = some (.string (⟨#[]⟩ : ByteArray)) := (blk_cell BK132.out 0).trans rfl
        have hcz17_1 : w11.cell? ⟨gb132, 1, none⟩ = some (.int .i64 0) := (blk_cell BK132.out 1).trans rfl
        have hcz17_2 : w11.cell? ⟨gb132, 2, none⟩ = some (.int .i64 0) := (blk_cell BK132.out 2).trans rfl
        have hcz17_3 : w11.cell? ⟨gb132, 3, none⟩ = some (.int .i64 0) := (blk_cell BK132.out 3).trans rfl
        have hcz17_4 : w11.cell? ⟨gb132, 4, none⟩ = some (.int .i64 0) := (blk_cell BK132.out 4).trans rfl
        have hcz17_5 : w11.cell? ⟨gb132, 5, none⟩ = some (.int .i64 0) := (blk_cell BK132.out 5).trans rfl
        have hcz17_6 : w11.cell? ⟨gb132, 6, none⟩ = some (.bool false) := (blk_cell BK132.out 6).trans rfl
        have hfz17_0 := blk_frozen BK132.out 0
        have hfz17_1 := blk_frozen BK132.out 1
        have hfz17_2 := blk_frozen BK132.out 2
        have hfz17_3 := blk_frozen BK132.out 3
        have hfz17_4 := blk_frozen BK132.out 4
        have hfz17_5 := blk_frozen BK132.out 5
        have hfz17_6 := blk_frozen BK132.out 6
        go_wp2
        go_meet
        case rel => exact ⟨_, (true), (by first | rfl | (simp; done) | (simp [*]; done)), H', ⟨by have := HJ1.out; first | omega | exact Nat.le_refl _⟩, ⟨by (with_reducible repeat (first | refine blk_drewN ?_ _ | refine blk_drew ?_ | refine blk_alloc ?_ _)); refine blk_far ?_ NB122_132.out _; (with_reducible repeat (first | refine blk_drewN ?_ _ | refine blk_drew ?_ | refine blk_alloc ?_ _)); refine blk_far ?_ NB122_132.out _; (with_reducible repeat (first | refine blk_drewN ?_ _ | refine blk_drew ?_ | refine blk_alloc ?_ _)); refine blk_far ?_ NB122_132.out _; (with_reducible repeat (first | refine blk_drewN ?_ _ | refine blk_drew ?_ | refine blk_alloc ?_ _)); refine blk_far ?_ NB122_132.out _; (with_reducible repeat (first | refine blk_drewN ?_ _ | refine blk_drew ?_ | refine blk_alloc ?_ _)); refine blk_far ?_ NB122_132.out _; (with_reducible repeat (first | refine blk_drewN ?_ _ | refine blk_drew ?_ | refine blk_alloc ?_ _)); refine blk_far ?_ NB122_132.out _; (with_reducible repeat (first | refine blk_drewN ?_ _ | refine blk_drew ?_ | refine blk_alloc ?_ _)); refine blk_far ?_ NB122_132.out _; (with_reducible repeat (first | refine blk_drewN ?_ _ | refine blk_drew ?_ | refine blk_alloc ?_ _)); exact BK122.out⟩, ⟨by (with_reducible repeat (first | refine blk_drewN ?_ _ | refine blk_drew ?_ | refine blk_alloc ?_ _)); refine blk_put (cs := #[.string t124, .int .i64 t125, .int .i64 t126, .int .i64 t127, .int .i64 t128, .int .i64 t129, .bool false]) ?_ 6 _ rfl; (with_reducible repeat (first | refine blk_drewN ?_ _ | refine blk_drew ?_ | refine blk_alloc ?_ _)); refine blk_put (cs := #[.string t124, .int .i64 t125, .int .i64 t126, .int .i64 t127, .int .i64 t128, .int .i64 0, .bool false]) ?_ 5 _ rfl; (with_reducible repeat (first | refine blk_drewN ?_ _ | refine blk_drew ?_ | refine blk_alloc ?_ _)); refine blk_put (cs := #[.string t124, .int .i64 t125, .int .i64 t126, .int .i64 t127, .int .i64 0, .int .i64 0, .bool false]) ?_ 4 _ rfl; (with_reducible repeat (first | refine blk_drewN ?_ _ | refine blk_drew ?_ | refine blk_alloc ?_ _)); refine blk_put (cs := #[.string t124, .int .i64 t125, .int .i64 t126, .int .i64 0, .int .i64 0, .int .i64 0, .bool false]) ?_ 3 _ rfl; (with_reducible repeat (first | refine blk_drewN ?_ _ | refine blk_drew ?_ | refine blk_alloc ?_ _)); refine blk_put (cs := #[.string t124, .int .i64 t125, .int .i64 0, .int .i64 0, .int .i64 0, .int .i64 0, .bool false]) ?_ 2 _ rfl; (with_reducible repeat (first | refine blk_drewN ?_ _ | refine blk_drew ?_ | refine blk_alloc ?_ _)); refine blk_put (cs := #[.string t124, .int .i64 0, .int .i64 0, .int .i64 0, .int .i64 0, .int .i64 0, .bool false]) ?_ 1 _ rfl; (with_reducible repeat (first | refine blk_drewN ?_ _ | refine blk_drew ?_ | refine blk_alloc ?_ _)); refine blk_put (cs := #[.string (⟨#[]⟩ : ByteArray), .int .i64 0, .int .i64 0, .int .i64 0, .int .i64 0, .int .i64 0, .bool false]) ?_ 0 _ rfl; (with_reducible repeat (first | refine blk_drewN ?_ _ | refine blk_drew ?_ | refine blk_alloc ?_ _)); exact BK132.out⟩, ⟨(q8f57_ HB.out GE122.out GE132.out)⟩⟩
       ·rw [if_neg c15] at H
        have c15b0 : decide ((l0.length : Int) < t125) = false := decide_eq_false c15
        clear c15
        (first | rw [c15b0] | (simp only [i64_w, i32_w]; rw [c15b0]) | skip)
        by_cases c18 : t126 > 0
        ·rw [if_pos c18] at H
         have c18b0 : decide (0 < t126) = true := decide_eq_true c18
         clear c18
         have H' := Aside0.mk H
         clear H
         have hnb19 := NB132_122.out
         have hnc19 := NB122_132.out
         have hcz20_0 : w11.cell? ⟨gb132, 0, none⟩ = some (.string (⟨#[]⟩ : ByteArray)) := (blk_cell BK132.out 0).trans rfl
         have hcz20_1 : w11.cell? ⟨gb132, 1, none⟩ = some (.int .i64 0) := (blk_cell BK132.out 1).trans rfl
         have hcz20_2 : w11.cell? ⟨gb132, 2, none⟩ = some (.int .i64 0) := (blk_cell BK132.out 2).trans rfl
         have hcz20_3 : w11.cell? ⟨gb132, 3, none⟩ = some (.int .i64 0) := (blk_cell BK132.out 3).trans rfl
         have hcz20_4 : w11.cell? ⟨gb132, 4, none⟩ = some (.int .i64 0) := (blk_cell BK132.out 4).trans rfl
         have hcz20_5 : w11.cell? ⟨gb132, 5, none⟩ = some (.int .i64 0) := (blk_cell BK132.out 5).trans rfl
         have hcz20_6 : w11.cell? ⟨gb132, 6, none⟩ = some (.bool false) := (blk_cell BK132.out 6).trans rfl
         have hfz20_0 := blk_frozen BK132.out 0
         have hfz20_1 := blk_frozen BK132.out 1
         have hfz20_2 := blk_frozen BK132.out 2
         have hfz20_3 := blk_frozen BK132.out 3
         have hfz20_4 := blk_frozen BK132.out 4
         have hfz20_5 := blk_frozen BK132.out 5
         have hfz20_6 := blk_frozen BK132.out 6
         go_wp2
         go_meet
         case rel => exact ⟨_, (decide ((l0.length : Int) > t126)), (by first | rfl | (simp; done) | (simp [*]; done)), H', ⟨by have := HJ1.out; first | omega | exact Nat.le_refl _⟩, ⟨by (with_reducible repeat (first | refine blk_drewN ?_ _ | refine blk_drew ?_ | refine blk_alloc ?_ _)); refine blk_far ?_ NB122_132.out _; (with_reducible repeat (first | refine blk_drewN ?_ _ | refine blk_drew ?_ | refine blk_alloc ?_ _)); refine blk_far ?_ NB122_132.out _; (with_reducible repeat (first | refine blk_drewN ?_ _ | refine blk_drew ?_ | refine blk_alloc ?_ _)); refine blk_far ?_ NB122_132.out _; (with_reducible repeat (first | refine blk_drewN ?_ _ | refine blk_drew ?_ | refine blk_alloc ?_ _)); refine blk_far ?_ NB122_132.out _; (with_reducible repeat (first | refine blk_drewN ?_ _ | refine blk_drew ?_ | refine blk_alloc ?_ _)); refine blk_far ?_ NB122_132.out _; (with_reducible repeat (first | refine blk_drewN ?_ _ | refine blk_drew ?_ | refine blk_alloc ?_ _)); refine blk_far ?_ NB122_132.out _; (with_reducible repeat (first | refine blk_drewN ?_ _ | refine blk_drew ?_ | refine blk_alloc ?_ _)); refine blk_far ?_ NB122_132.out _; (with_reducible repeat (first | refine blk_drewN ?_ _ | refine blk_drew ?_ | refine blk_alloc ?_ _)); exact BK122.out⟩, ⟨by (with_reducible repeat (first | refine blk_drewN ?_ _ | refine blk_drew ?_ | refine blk_alloc ?_ _)); refine blk_put (cs := #[.string t124, .int .i64 t125, .int .i64 t126, .int .i64 t127, .int .i64 t128, .int .i64 t129, .bool false]) ?_ 6 _ rfl; (with_reducible repeat (first | refine blk_drewN ?_ _ | refine blk_drew ?_ | refine blk_alloc ?_ _)); refine blk_put (cs := #[.string t124, .int .i64 t125, .int .i64 t126, .int .i64 t127, .int .i64 t128, .int .i64 0, .bool false]) ?_ 5 _ rfl; (with_reducible repeat (first | refine blk_drewN ?_ _ | refine blk_drew ?_ | refine blk_alloc ?_ _)); refine blk_put (cs := #[.string t124, .int .i64 t125, .int .i64 t126, .int .i64 t127, .int .i64 0, .int .i64 0, .bool false]) ?_ 4 _ rfl; (with_reducible repeat (first | refine blk_drewN ?_ _ | refine blk_drew ?_ | refine blk_alloc ?_ _)); refine blk_put (cs := #[.string t124, .int .i64 t125, .int .i64 t126, .int .i64 0, .int .i64 0, .int .i64 0, .bool false]) ?_ 3 _ rfl; (with_reducible repeat (first | refine blk_drewN ?_ _ | refine blk_drew ?_ | refine blk_alloc ?_ _)); refine blk_put (cs := #[.string t124, .int .i64 t125, .int .i64 0, .int .i64 0, .int .i64 0, .int .i64 0, .bool false]) ?_ 2 _ rfl; (with_reducible repeat (first | refine blk_drewN ?_ _ | refine blk_drew ?_ | refine blk_alloc ?_ _)); refine blk_put (cs := #[.string t124, .int .i64 0, .int .i64 0, .int .i64 0, .int .i64 0, .int .i64 0, .bool false]) ?_ 1 _ rfl; (with_reducible repeat (first | refine blk_drewN ?_ _ | refine blk_drew ?_ | refine blk_alloc ?_ _)); refine blk_put (cs := #[.string (⟨#[]⟩ : ByteArray), .int .i64 0, .int .i64 0, .int .i64 0, .int .i64 0, .int .i64 0, .bool false]) ?_ 0 _ rfl; (with_reducible repeat (first | refine blk_drewN ?_ _ | refine blk_drew ?_ | refine blk_alloc ?_ _)); exact BK132.out⟩, ⟨(q8f57_ HB.out GE122.out GE132.out)⟩⟩
        ·rw [if_neg c18] at H
         have c18b0 : decide (0 < t126) = false := decide_eq_false c18
         clear c18
         have H' := Aside0.mk H
         clear H
         have hnb21 := NB132_122.out
         have hnc21 := NB122_132.out
         have hcz22_0 : w11.cell? ⟨gb132, 0, none⟩ = some (.string (⟨#[]⟩ : ByteArray)) := (blk_cell BK132.out 0).trans rfl
         have hcz22_1 : w11.cell? ⟨gb132, 1, none⟩ = some (.int .i64 0) := (blk_cell BK132.out 1).trans rfl
         have hcz22_2 : w11.cell? ⟨gb132, 2, none⟩ = some (.int .i64 0) := (blk_cell BK132.out 2).trans rfl
         have hcz22_3 : w11.cell? ⟨gb132, 3, none⟩ = some (.int .i64 0) := (blk_cell BK132.out 3).trans rfl
         have hcz22_4 : w11.cell? ⟨gb132, 4, none⟩ = some (.int .i64 0) := (blk_cell BK132.out 4).trans rfl
         have hcz22_5 : w11.cell? ⟨gb132, 5, none⟩ = some (.int .i64 0) := (blk_cell BK132.out 5).trans rfl
         have hcz22_6 : w11.cell? ⟨gb132, 6, none⟩ = some (.bool false) := (blk_cell BK132.out 6).trans rfl
         have hfz22_0 := blk_frozen BK132.out 0
         have hfz22_1 := blk_frozen BK132.out 1
         have hfz22_2 := blk_frozen BK132.out 2
         have hfz22_3 := blk_frozen BK132.out 3
         have hfz22_4 := blk_frozen BK132.out 4
         have hfz22_5 := blk_frozen BK132.out 5
         have hfz22_6 := blk_frozen BK132.out 6
         go_wp2
         go_meet
         case rel => exact ⟨_, (false), (by first | rfl | (simp; done) | (simp [*]; done)), H', ⟨by have := HJ1.out; first | omega | exact Nat.le_refl _⟩, ⟨by (with_reducible repeat (first | refine blk_drewN ?_ _ | refine blk_drew ?_ | refine blk_alloc ?_ _)); refine blk_far ?_ NB122_132.out _; (with_reducible repeat (first | refine blk_drewN ?_ _ | refine blk_drew ?_ | refine blk_alloc ?_ _)); refine blk_far ?_ NB122_132.out _; (with_reducible repeat (first | refine blk_drewN ?_ _ | refine blk_drew ?_ | refine blk_alloc ?_ _)); refine blk_far ?_ NB122_132.out _; (with_reducible repeat (first | refine blk_drewN ?_ _ | refine blk_drew ?_ | refine blk_alloc ?_ _)); refine blk_far ?_ NB122_132.out _; (with_reducible repeat (first | refine blk_drewN ?_ _ | refine blk_drew ?_ | refine blk_alloc ?_ _)); refine blk_far ?_ NB122_132.out _; (with_reducible repeat (first | refine blk_drewN ?_ _ | refine blk_drew ?_ | refine blk_alloc ?_ _)); refine blk_far ?_ NB122_132.out _; (with_reducible repeat (first | refine blk_drewN ?_ _ | refine blk_drew ?_ | refine blk_alloc ?_ _)); refine blk_far ?_ NB122_132.out _; (with_reducible repeat (first | refine blk_drewN ?_ _ | refine blk_drew ?_ | refine blk_alloc ?_ _)); exact BK122.out⟩, ⟨by (with_reducible repeat (first | refine blk_drewN ?_ _ | refine blk_drew ?_ | refine blk_alloc ?_ _)); refine blk_put (cs := #[.string t124, .int .i64 t125, .int .i64 t126, .int .i64 t127, .int .i64 t128, .int .i64 t129, .bool false]) ?_ 6 _ rfl; (with_reducible repeat (first | refine blk_drewN ?_ _ | refine blk_drew ?_ | refine blk_alloc ?_ _)); refine blk_put (cs := #[.string t124, .int .i64 t125, .int .i64 t126, .int .i64 t127, .int .i64 t128, .int .i64 0, .bool false]) ?_ 5 _ rfl; (with_reducible repeat (first | refine blk_drewN ?_ _ | refine blk_drew ?_ | refine blk_alloc ?_ _)); refine blk_put (cs := #[.string t124, .int .i64 t125, .int .i64 t126, .int .i64 t127, .int .i64 0, .int .i64 0, .bool false]) ?_ 4 _ rfl; (with_reducible repeat (first | refine blk_drewN ?_ _ | refine blk_drew ?_ | refine blk_alloc ?_ _)); refine blk_put (cs := #[.string t124, .int .i64 t125, .int .i64 t126, .int .i64 0, .int .i64 0, .int .i64 0, .bool false]) ?_ 3 _ rfl; (with_reducible repeat (first | refine blk_drewN ?_ _ | refine blk_drew ?_ | refine blk_alloc ?_ _)); refine blk_put (cs := #[.string t124, .int .i64 t125, .int .i64 0, .int .i64 0, .int .i64 0, .int .i64 0, .bool false]) ?_ 2 _ rfl; (with_reducible repeat (first | refine blk_drewN ?_ _ | refine blk_drew ?_ | refine blk_alloc ?_ _)); refine blk_put (cs := #[.string t124, .int .i64 0, .int .i64 0, .int .i64 0, .int .i64 0, .int .i64 0, .bool false]) ?_ 1 _ rfl; (with_reducible repeat (first | refine blk_drewN ?_ _ | refine blk_drew ?_ | refine blk_alloc ?_ _)); refine blk_put (cs := #[.string (⟨#[]⟩ : ByteArray), .int .i64 0, .int .i64 0, .int .i64 0, .int .i64 0, .int .i64 0, .bool false]) ?_ 0 _ rfl; (with_reducible repeat (first | refine blk_drewN ?_ _ | refine blk_drew ?_ | refine blk_alloc ?_ _)); exact BK132.out⟩, ⟨(q8f57_ HB.out GE122.out GE132.out)⟩⟩
      ·replace c14 := Bool.eq_false_iff.mpr c14
       subst c14
       have H1 : (caravanref1_Check.j1 kj1 l0 true t124 t125 t126 t127 t128 t129 t130) = some (r1, r2, r3, r4, r5, r6, r7, r8) := by rw [if_neg (show ¬ (false = true) by decide)] at H; exact H
       clear H
       have H := H1
       clear H1
       have H' := Aside0.mk H
       clear H
       go_wp2
       go_meet
       case rel => exact ⟨_, (true), (by first | rfl | (simp; done) | (simp [*]; done)), H', ⟨by have := HJ1.out; first | omega | exact Nat.le_refl _⟩, ⟨by (with_reducible repeat (first | refine blk_drewN ?_ _ | refine blk_drew ?_ | refine blk_alloc ?_ _)); refine blk_far ?_ NB122_132.out _; (with_reducible repeat (first | refine blk_drewN ?_ _ | refine blk_drew ?_ | refine blk_alloc ?_ _)); refine blk_far ?_ NB122_132.out _; (with_reducible repeat (first | refine blk_drewN ?_ _ | refine blk_drew ?_ | refine blk_alloc ?_ _)); refine blk_far ?_ NB122_132.out _; (with_reducible repeat (first | refine blk_drewN ?_ _ | refine blk_drew ?_ | refine blk_alloc ?_ _)); refine blk_far ?_ NB122_132.out _; (with_reducible repeat (first | refine blk_drewN ?_ _ | refine blk_drew ?_ | refine blk_alloc ?_ _)); refine blk_far ?_ NB122_132.out _; (with_reducible repeat (first | refine blk_drewN ?_ _ | refine blk_drew ?_ | refine blk_alloc ?_ _)); refine blk_far ?_ NB122_132.out _; (with_reducible repeat (first | refine blk_drewN ?_ _ | refine blk_drew ?_ | refine blk_alloc ?_ _)); refine blk_far ?_ NB122_132.out _; (with_reducible repeat (first | refine blk_drewN ?_ _ | refine blk_drew ?_ | refine blk_alloc ?_ _)); exact BK122.out⟩, ⟨by (with_reducible repeat (first | refine blk_drewN ?_ _ | refine blk_drew ?_ | refine blk_alloc ?_ _)); refine blk_put (cs := #[.string t124, .int .i64 t125, .int .i64 t126, .int .i64 t127, .int .i64 t128, .int .i64 t129, .bool false]) ?_ 6 _ rfl; (with_reducible repeat (first | refine blk_drewN ?_ _ | refine blk_drew ?_ | refine blk_alloc ?_ _)); refine blk_put (cs := #[.string t124, .int .i64 t125, .int .i64 t126, .int .i64 t127, .int .i64 t128, .int .i64 0, .bool false]) ?_ 5 _ rfl; (with_reducible repeat (first | refine blk_drewN ?_ _ | refine blk_drew ?_ | refine blk_alloc ?_ _)); refine blk_put (cs := #[.string t124, .int .i64 t125, .int .i64 t126, .int .i64 t127, .int .i64 0, .int .i64 0, .bool false]) ?_ 4 _ rfl; (with_reducible repeat (first | refine blk_drewN ?_ _ | refine blk_drew ?_ | refine blk_alloc ?_ _)); refine blk_put (cs := #[.string t124, .int .i64 t125, .int .i64 t126, .int .i64 0, .int .i64 0, .int .i64 0, .bool false]) ?_ 3 _ rfl; (with_reducible repeat (first | refine blk_drewN ?_ _ | refine blk_drew ?_ | refine blk_alloc ?_ _)); refine blk_put (cs := #[.string t124, .int .i64 t125, .int .i64 0, .int .i64 0, .int .i64 0, .int .i64 0, .bool false]) ?_ 2 _ rfl; (with_reducible repeat (first | refine blk_drewN ?_ _ | refine blk_drew ?_ | refine blk_alloc ?_ _)); refine blk_put (cs := #[.string t124, .int .i64 0, .int .i64 0, .int .i64 0, .int .i64 0, .int .i64 0, .bool false]) ?_ 1 _ rfl; (with_reducible repeat (first | refine blk_drewN ?_ _ | refine blk_drew ?_ | refine blk_alloc ?_ _)); refine blk_put (cs := #[.string (⟨#[]⟩ : ByteArray), .int .i64 0, .int .i64 0, .int .i64 0, .int .i64 0, .int .i64 0, .bool false]) ?_ 0 _ rfl; (with_reducible repeat (first | refine blk_drewN ?_ _ | refine blk_drew ?_ | refine blk_alloc ?_ _)); exact BK132.out⟩, ⟨(q8f57_ HB.out GE122.out GE132.out)⟩⟩
     case rest =>
      clear HC9
      try clear c1
      try clear p1
      try clear q1
      try clear hx1
      try clear qi1
      try clear c2
      try clear p2
      try clear c4
      try clear c4b0
      try clear c4b1
      try clear c4b2
      try clear c5
      try clear c7
      try clear c7b0
      try clear c7b1
      try clear c10
      try clear c12
      try clear p12
      try clear q12
      try clear hx12
      try clear qi12
      try clear c14
      try clear c15
      try clear c15b0
      try clear c16
      try clear c18
      try clear c18b0
      try clear c19
      try clear c21
      try clear hcz13_0
      try clear hcz13_1
      try clear hcz13_2
      try clear hcz13_3
      try clear hcz13_4
      try clear hcz13_5
      try clear hcz13_6
      try clear hcz17_0
      try clear hcz17_1
      try clear hcz17_2
      try clear hcz17_3
      try clear hcz17_4
      try clear hcz17_5
      try clear hcz17_6
      try clear hcz20_0
      try clear hcz20_1
      try clear hcz20_2
      try clear hcz20_3
      try clear hcz20_4
      try clear hcz20_5
      try clear hcz20_6
      try clear hcz22_0
      try clear hcz22_1
      try clear hcz22_2
      try clear hcz22_3
      try clear hcz22_4
      try clear hcz22_5
      try clear hcz22_6
      try clear hcz6_0
      try clear hcz6_1
      try clear hcz6_2
      try clear hcz6_3
      try clear hcz6_4
      try clear hcz6_5
      try clear hcz6_6
      try clear hfz13_0
      try clear hfz13_1
      try clear hfz13_2
      try clear hfz13_3
      try clear hfz13_4
      try clear hfz13_5
      try clear hfz13_6
      try clear hfz17_0
      try clear hfz17_1
      try clear hfz17_2
      try clear hfz17_3
      try clear hfz17_4
      try clear hfz17_5
      try clear hfz17_6
      try clear hfz20_0
      try clear hfz20_1
      try clear hfz20_2
      try clear hfz20_3
      try clear hfz20_4
      try clear hfz20_5
      try clear hfz20_6
      try clear hfz22_0
      try clear hfz22_1
      try clear hfz22_2
      try clear hfz22_3
      try clear hfz22_4
      try clear hfz22_5
      try clear hfz22_6
      try clear hfz6_0
      try clear hfz6_1
      try clear hfz6_2
      try clear hfz6_3
      try clear hfz6_4
      try clear hfz6_5
      try clear hfz6_6
      try clear hx123_0
      try clear p123
      try clear p2
      try clear q123
      obtain ⟨kq, x45_8, rfl, HA, HJ8, BK122, BK132, HB⟩ := hcut
      cases kq with
      | zero => exact absurd HA.out (by simp [caravanref1_Check.j1])
      | succ kj8 =>
       have H := HA.out
       clear HA
       simp only [caravanref1_Check.j1] at H
       by_cases c23 : x45_8 = true
       ·subst c23
        have H1 : (some ((⟨#[]⟩ : ByteArray), 0, 0, 0, 0, 0, false, false)) = some (r1, r2, r3, r4, r5, r6, r7, r8) := by rw [if_pos rfl] at H; exact H
        clear H
        have H := H1
        clear H1
        simp only [Option.some.injEq, Prod.mk.injEq] at H
        obtain ⟨rfl, rfl, rfl, rfl, rfl, rfl, rfl, rfl⟩ := H
        have hnb24 := NB122_132.out
        have hnc24 := NB132_122.out
        have hcz25_0 : wc.cell? ⟨gb122, 0, none⟩ = some (.string (⟨#[]⟩ : ByteArray)) := (blk_cell BK122.out 0).trans rfl
        have hcz25_1 : wc.cell? ⟨gb122, 1, none⟩ = some (.int .i64 0) := (blk_cell BK122.out 1).trans rfl
        have hcz25_2 : wc.cell? ⟨gb122, 2, none⟩ = some (.int .i64 0) := (blk_cell BK122.out 2).trans rfl
        have hcz25_3 : wc.cell? ⟨gb122, 3, none⟩ = some (.int .i64 0) := (blk_cell BK122.out 3).trans rfl
        have hcz25_4 : wc.cell? ⟨gb122, 4, none⟩ = some (.int .i64 0) := (blk_cell BK122.out 4).trans rfl
        have hcz25_5 : wc.cell? ⟨gb122, 5, none⟩ = some (.int .i64 0) := (blk_cell BK122.out 5).trans rfl
        have hcz25_6 : wc.cell? ⟨gb122, 6, none⟩ = some (.bool false) := (blk_cell BK122.out 6).trans rfl
        have hfz25_0 := blk_frozen BK122.out 0
        have hfz25_1 := blk_frozen BK122.out 1
        have hfz25_2 := blk_frozen BK122.out 2
        have hfz25_3 := blk_frozen BK122.out 3
        have hfz25_4 := blk_frozen BK122.out 4
        have hfz25_5 := blk_frozen BK122.out 5
        have hfz25_6 := blk_frozen BK122.out 6
        go_wp2
        refine bodyPost_ret (results_ct rfl _ _ gb122 26 #[.string (⟨#[]⟩ : ByteArray), .int .i64 0, .int .i64 0, .int .i64 0, .int .i64 0, .int .i64 0, .bool false] (0, 0) _ rfl (by (with_reducible repeat (first | refine blk_drewN ?_ _ | refine blk_drew ?_ | refine blk_alloc ?_ _)); refine blk_put (cs := #[.string (⟨#[]⟩ : ByteArray), .int .i64 0, .int .i64 0, .int .i64 0, .int .i64 0, .int .i64 0, .bool false]) ?_ 6 _ rfl; (with_reducible repeat (first | refine blk_drewN ?_ _ | refine blk_drew ?_ | refine blk_alloc ?_ _)); refine blk_put (cs := #[.string (⟨#[]⟩ : ByteArray), .int .i64 0, .int .i64 0, .int .i64 0, .int .i64 0, .int .i64 0, .bool false]) ?_ 5 _ rfl; (with_reducible repeat (first | refine blk_drewN ?_ _ | refine blk_drew ?_ | refine blk_alloc ?_ _)); refine blk_put (cs := #[.string (⟨#[]⟩ : ByteArray), .int .i64 0, .int .i64 0, .int .i64 0, .int .i64 0, .int .i64 0, .bool false]) ?_ 4 _ rfl; (with_reducible repeat (first | refine blk_drewN ?_ _ | refine blk_drew ?_ | refine blk_alloc ?_ _)); refine blk_put (cs := #[.string (⟨#[]⟩ : ByteArray), .int .i64 0, .int .i64 0, .int .i64 0, .int .i64 0, .int .i64 0, .bool false]) ?_ 3 _ rfl; (with_reducible repeat (first | refine blk_drewN ?_ _ | refine blk_drew ?_ | refine blk_alloc ?_ _)); refine blk_put (cs := #[.string (⟨#[]⟩ : ByteArray), .int .i64 0, .int .i64 0, .int .i64 0, .int .i64 0, .int .i64 0, .bool false]) ?_ 2 _ rfl; (with_reducible repeat (first | refine blk_drewN ?_ _ | refine blk_drew ?_ | refine blk_alloc ?_ _)); refine blk_put (cs := #[.string (⟨#[]⟩ : ByteArray), .int .i64 0, .int .i64 0, .int .i64 0, .int .i64 0, .int .i64 0, .bool false]) ?_ 1 _ rfl; (with_reducible repeat (first | refine blk_drewN ?_ _ | refine blk_drew ?_ | refine blk_alloc ?_ _)); refine blk_put (cs := #[.string (⟨#[]⟩ : ByteArray), .int .i64 0, .int .i64 0, .int .i64 0, .int .i64 0, .int .i64 0, .bool false]) ?_ 0 _ rfl; (with_reducible repeat (first | refine blk_drewN ?_ _ | refine blk_drew ?_ | refine blk_alloc ?_ _)); exact BK122.out) Try.underlying26 rfl (by kernel_rfl)) rfl ?_
        exact ⟨by first | rfl | (simp [errW_none, errW_some] <;> rfl) | (simp [*, errW_none, errW_some] <;> rfl), (q8f57_ HB.out GE122.out GE132.out)⟩
       ·replace c23 := Bool.eq_false_iff.mpr c23
        subst c23
        have H1 : (if t124.toList = ([77, 83, 69, 84] : List UInt8) then (if ((l0.length : Int) % 2) = 0 then (caravanref1_Check.j2 kj8 l0 true t124 t125 t126 t127 t128 t129 t130) else (if t124.toList = ([72, 83, 69, 84] : List UInt8) then (caravanref1_Check.j2 kj8 l0 (!(((l0.length : Int) % 2) == 0)) t124 t125 t126 t127 t128 t129 t130) else (caravanref1_Check.j2 kj8 l0 false t124 t125 t126 t127 t128 t129 t130))) else (if t124.toList = ([77, 83, 69, 84, 78, 88] : List UInt8) then (if ((l0.length : Int) % 2) = 0 then (caravanref1_Check.j2 kj8 l0 true t124 t125 t126 t127 t128 t129 t130) else (if t124.toList = ([72, 83, 69, 84] : List UInt8) then (caravanref1_Check.j2 kj8 l0 (!(((l0.length : Int) % 2) == 0)) t124 t125 t126 t127 t128 t129 t130) else (caravanref1_Check.j2 kj8 l0 false t124 t125 t126 t127 t128 t129 t130))) else (if t124.toList = ([72, 83, 69, 84] : List UInt8) then (caravanref1_Check.j2 kj8 l0 (!(((l0.length : Int) % 2) == 0)) t124 t125 t126 t127 t128 t129 t130) else (caravanref1_Check.j2 kj8 l0 false t124 t125 t126 t127 t128 t129 t130)))) = some (r1, r2, r3, r4, r5, r6, r7, r8) := by rw [if_neg (show ¬ (false = true) by decide)] at H; exact H
        clear H
        have H := H1
        clear H1
        have HC26 := Aside0.mk H
        clear H
        go_upto_region 7 with (fail)
        go_cut [70] (fun v70 wc => ∃ (kq : Nat) (x70_25 : Bool), v70 = .bool x70_25 ∧ Aside0 (caravanref1_Check.j2 kq l0 x70_25 t124 t125 t126 t127 t128 t129 t130 = some (r1, r2, r3, r4, r5, r6, r7, r8)) ∧ Aside0 (kq ≤ kj8) ∧ Aside0 (wc.heap[gb122]? = some (.cells #[.string (⟨#[]⟩ : ByteArray), .int .i64 0, .int .i64 0, .int .i64 0, .int .i64 0, .int .i64 0, .bool false] 26 (0, 0))) ∧ Aside0 (wc.heap[gb132]? = some (.cells #[.string t124, .int .i64 t125, .int .i64 t126, .int .i64 t127, .int .i64 t128, .int .i64 t129, .bool t130] 26 (0, 0))) ∧ Aside0 (Below w.heap.size w wc))
        case first =>
         have H := HC26.out
         clear HC26
         by_cases c27 : t124.toList = ([77, 83, 69, 84] : List UInt8)
         ·rw [if_pos c27] at H
          have c27b0 : (t124.toList == ([77, 83, 69, 84] : List UInt8)) = true := beq_iff_eq.mpr c27
          have c27b1 : (t124.toList != ([77, 83, 69, 84] : List UInt8)) = false := bne_eq_false_iff_eq.mpr c27
          clear c27
          (first | rw [c27b0] | (simp only [i64_w, i32_w]; rw [c27b0]) | skip)
          by_cases c28 : ((l0.length : Int) % 2) = 0
          ·rw [if_pos c28] at H
           have c28b0 : (((l0.length : Int) % 2) == 0) = true := beq_iff_eq.mpr c28
           have c28b1 : (((l0.length : Int) % 2) != 0) = false := bne_eq_false_iff_eq.mpr c28
           clear c28
           have H' := Aside0.mk H
           clear H
           have hnb29 := NB132_122.out
           have hnc29 := NB122_132.out
           have hcz30_0 : wc.cell? ⟨gb132, 0, none⟩ = some (.string t124) := (blk_cell BK132.out 0).trans rfl
           have hcz30_1 : wc.cell? ⟨gb132, 1, none⟩ = some (.int .i64 t125) := (blk_cell BK132.out 1).trans rfl
           have hcz30_2 : wc.cell? ⟨gb132, 2, none⟩ = some (.int .i64 t126) := (blk_cell BK132.out 2).trans rfl
           have hcz30_3 : wc.cell? ⟨gb132, 3, none⟩ = some (.int .i64 t127) := (blk_cell BK132.out 3).trans rfl
           have hcz30_4 : wc.cell? ⟨gb132, 4, none⟩ = some (.int .i64 t128) := (blk_cell BK132.out 4).trans rfl
           have hcz30_5 : wc.cell? ⟨gb132, 5, none⟩ = some (.int .i64 t129) := (blk_cell BK132.out 5).trans rfl
           have hcz30_6 : wc.cell? ⟨gb132, 6, none⟩ = some (.bool t130) := (blk_cell BK132.out 6).trans rfl
           have hfz30_0 := blk_frozen BK132.out 0
           have hfz30_1 := blk_frozen BK132.out 1
           have hfz30_2 := blk_frozen BK132.out 2
           have hfz30_3 := blk_frozen BK132.out 3
           have hfz30_4 := blk_frozen BK132.out 4
           have hfz30_5 := blk_frozen BK132.out 5
           have hfz30_6 := blk_frozen BK132.out 6
           go_wp2
           go_meet
           case rel => exact ⟨_, (true), (by first | rfl | (simp; done) | (simp [*]; done)), H', ⟨by have := HJ1.out; have := HJ8.out; first | omega | exact Nat.le_refl _⟩, ⟨by (with_reducible repeat (first | refine blk_drewN ?_ _ | refine blk_drew ?_ | refine blk_alloc ?_ _)); exact BK122.out⟩, ⟨by (with_reducible repeat (first | refine blk_drewN ?_ _ | refine blk_drew ?_ | refine blk_alloc ?_ _)); exact BK132.out⟩, ⟨(q8f57_ HB.out GE122.out GE132.out)⟩⟩
          ·rw [if_neg c28] at H
           have c28b0 : (((l0.length : Int) % 2) == 0) = false := beq_eq_false_iff_ne.mpr c28
           have c28b1 : (((l0.length : Int) % 2) != 0) = true := bne_iff_ne.mpr c28
           by_cases c31 : t124.toList = ([72, 83, 69, 84] : List UInt8)
           ·rw [if_pos c31] at H
            have c31b0 : (t124.toList == ([72, 83, 69, 84] : List UInt8)) = true := beq_iff_eq.mpr c31
            have c31b1 : (t124.toList != ([72, 83, 69, 84] : List UInt8)) = false := bne_eq_false_iff_eq.mpr c31
            clear c31
            have H' := Aside0.mk H
            clear H
            have hnb32 := NB132_122.out
            have hnc32 := NB122_132.out
            have hcz33_0 : wc.cell? ⟨gb132, 0, none⟩ = some (.string t124) := (blk_cell BK132.out 0).trans rfl
            have hcz33_1 : wc.cell? ⟨gb132, 1, none⟩ = some (.int .i64 t125) := (blk_cell BK132.out 1).trans rfl
            have hcz33_2 : wc.cell? ⟨gb132, 2, none⟩ = some (.int .i64 t126) := (blk_cell BK132.out 2).trans rfl
            have hcz33_3 : wc.cell? ⟨gb132, 3, none⟩ = some (.int .i64 t127) := (blk_cell BK132.out 3).trans rfl
            have hcz33_4 : wc.cell? ⟨gb132, 4, none⟩ = some (.int .i64 t128) := (blk_cell BK132.out 4).trans rfl
            have hcz33_5 : wc.cell? ⟨gb132, 5, none⟩ = some (.int .i64 t129) := (blk_cell BK132.out 5).trans rfl
            have hcz33_6 : wc.cell? ⟨gb132, 6, none⟩ = some (.bool t130) := (blk_cell BK132.out 6).trans rfl
            have hfz33_0 := blk_frozen BK132.out 0
            have hfz33_1 := blk_frozen BK132.out 1
            have hfz33_2 := blk_frozen BK132.out 2
            have hfz33_3 := blk_frozen BK132.out 3
            have hfz33_4 := blk_frozen BK132.out 4
            have hfz33_5 := blk_frozen BK132.out 5
            have hfz33_6 := blk_frozen BK132.out 6
            go_wp2
            go_meet
            case rel => exact ⟨_, (!(((l0.length : Int) % 2) == 0)), (by first | rfl | (simp; done) | (simp [*]; done)), H', ⟨by have := HJ1.out; have := HJ8.out; first | omega | exact Nat.le_refl _⟩, ⟨by (with_reducible repeat (first | refine blk_drewN ?_ _ | refine blk_drew ?_ | refine blk_alloc ?_ _)); exact BK122.out⟩, ⟨by (with_reducible repeat (first | refine blk_drewN ?_ _ | refine blk_drew ?_ | refine blk_alloc ?_ _)); exact BK132.out⟩, ⟨(q8f57_ HB.out GE122.out GE132.out)⟩⟩
           ·rw [if_neg c31] at H
            have c31b0 : (t124.toList == ([72, 83, 69, 84] : List UInt8)) = false := beq_eq_false_iff_ne.mpr c31
            have c31b1 : (t124.toList != ([72, 83, 69, 84] : List UInt8)) = true := bne_iff_ne.mpr c31
            have H' := Aside0.mk H
            clear H
            have hnb34 := NB132_122.out
            have hnc34 := NB122_132.out
            have hcz35_0 : wc.cell? ⟨gb132, 0, none⟩ = some (.string t124) := (blk_cell BK132.out 0).trans rfl
            have hcz35_1 : wc.cell? ⟨gb132, 1, none⟩ = some (.int .i64 t125) := (blk_cell BK132.out 1).trans rfl
            have hcz35_2 : wc.cell? ⟨gb132, 2, none⟩ = some (.int .i64 t126) := (blk_cell BK132.out 2).trans rfl
            have hcz35_3 : wc.cell? ⟨gb132, 3, none⟩ = some (.int .i64 t127) := (blk_cell BK132.out 3).trans rfl
            have hcz35_4 : wc.cell? ⟨gb132, 4, none⟩ = some (.int .i64 t128) := (blk_cell BK132.out 4).trans rfl
            have hcz35_5 : wc.cell? ⟨gb132, 5, none⟩ = some (.int .i64 t129) := (blk_cell BK132.out 5).trans rfl
            have hcz35_6 : wc.cell? ⟨gb132, 6, none⟩ = some (.bool t130) := (blk_cell BK132.out 6).trans rfl
            have hfz35_0 := blk_frozen BK132.out 0
            have hfz35_1 := blk_frozen BK132.out 1
            have hfz35_2 := blk_frozen BK132.out 2
            have hfz35_3 := blk_frozen BK132.out 3
            have hfz35_4 := blk_frozen BK132.out 4
            have hfz35_5 := blk_frozen BK132.out 5
            have hfz35_6 := blk_frozen BK132.out 6
            go_wp2
            go_meet
            case rel => exact ⟨_, (false), (by first | rfl | (simp; done) | (simp [*]; done)), H', ⟨by have := HJ1.out; have := HJ8.out; first | omega | exact Nat.le_refl _⟩, ⟨by (with_reducible repeat (first | refine blk_drewN ?_ _ | refine blk_drew ?_ | refine blk_alloc ?_ _)); exact BK122.out⟩, ⟨by (with_reducible repeat (first | refine blk_drewN ?_ _ | refine blk_drew ?_ | refine blk_alloc ?_ _)); exact BK132.out⟩, ⟨(q8f57_ HB.out GE122.out GE132.out)⟩⟩
         ·rw [if_neg c27] at H
          have c27b0 : (t124.toList == ([77, 83, 69, 84] : List UInt8)) = false := beq_eq_false_iff_ne.mpr c27
          have c27b1 : (t124.toList != ([77, 83, 69, 84] : List UInt8)) = true := bne_iff_ne.mpr c27
          (first | rw [c27b0] | (simp only [i64_w, i32_w]; rw [c27b0]) | skip)
          by_cases c36 : t124.toList = ([77, 83, 69, 84, 78, 88] : List UInt8)
          ·rw [if_pos c36] at H
           have c36b0 : (t124.toList == ([77, 83, 69, 84, 78, 88] : List UInt8)) = true := beq_iff_eq.mpr c36
           have c36b1 : (t124.toList != ([77, 83, 69, 84, 78, 88] : List UInt8)) = false := bne_eq_false_iff_eq.mpr c36
           clear c36
           by_cases c37 : ((l0.length : Int) % 2) = 0
           ·rw [if_pos c37] at H
            have c37b0 : (((l0.length : Int) % 2) == 0) = true := beq_iff_eq.mpr c37
            have c37b1 : (((l0.length : Int) % 2) != 0) = false := bne_eq_false_iff_eq.mpr c37
            clear c37
            have H' := Aside0.mk H
            clear H
            have hnb38 := NB132_122.out
            have hnc38 := NB122_132.out
            have hcz39_0 : wc.cell? ⟨gb132, 0, none⟩ = some (.string t124) := (blk_cell BK132.out 0).trans rfl
            have hcz39_1 : wc.cell? ⟨gb132, 1, none⟩ = some (.int .i64 t125) := (blk_cell BK132.out 1).trans rfl
            have hcz39_2 : wc.cell? ⟨gb132, 2, none⟩ = some (.int .i64 t126) := (blk_cell BK132.out 2).trans rfl
            have hcz39_3 : wc.cell? ⟨gb132, 3, none⟩ = some (.int .i64 t127) := (blk_cell BK132.out 3).trans rfl
            have hcz39_4 : wc.cell? ⟨gb132, 4, none⟩ = some (.int .i64 t128) := (blk_cell BK132.out 4).trans rfl
            have hcz39_5 : wc.cell? ⟨gb132, 5, none⟩ = some (.int .i64 t129) := (blk_cell BK132.out 5).trans rfl
            have hcz39_6 : wc.cell? ⟨gb132, 6, none⟩ = some (.bool t130) := (blk_cell BK132.out 6).trans rfl
            have hfz39_0 := blk_frozen BK132.out 0
            have hfz39_1 := blk_frozen BK132.out 1
            have hfz39_2 := blk_frozen BK132.out 2
            have hfz39_3 := blk_frozen BK132.out 3
            have hfz39_4 := blk_frozen BK132.out 4
            have hfz39_5 := blk_frozen BK132.out 5
            have hfz39_6 := blk_frozen BK132.out 6
            go_wp2
            go_meet
            case rel => exact ⟨_, (true), (by first | rfl | (simp; done) | (simp [*]; done)), H', ⟨by have := HJ1.out; have := HJ8.out; first | omega | exact Nat.le_refl _⟩, ⟨by (with_reducible repeat (first | refine blk_drewN ?_ _ | refine blk_drew ?_ | refine blk_alloc ?_ _)); exact BK122.out⟩, ⟨by (with_reducible repeat (first | refine blk_drewN ?_ _ | refine blk_drew ?_ | refine blk_alloc ?_ _)); exact BK132.out⟩, ⟨(q8f57_ HB.out GE122.out GE132.out)⟩⟩
           ·rw [if_neg c37] at H
            have c37b0 : (((l0.length : Int) % 2) == 0) = false := beq_eq_false_iff_ne.mpr c37
            have c37b1 : (((l0.length : Int) % 2) != 0) = true := bne_iff_ne.mpr c37
            by_cases c40 : t124.toList = ([72, 83, 69, 84] : List UInt8)
            ·rw [if_pos c40] at H
             have c40b0 : (t124.toList == ([72, 83, 69, 84] : List UInt8)) = true := beq_iff_eq.mpr c40
             have c40b1 : (t124.toList != ([72, 83, 69, 84] : List UInt8)) = false := bne_eq_false_iff_eq.mpr c40
             clear c40
             have H' := Aside0.mk H
             clear H
             have hnb41 := NB132_122.out
             have hnc41 := NB122_132.out
             have hcz42_0 : wc.cell? ⟨gb132, 0, none⟩ = some (.string t124) := (blk_cell BK132.out 0).trans rfl
             have hcz42_1 : wc.cell? ⟨gb132, 1, none⟩ = some (.int .i64 t125) := (blk_cell BK132.out 1).trans rfl
             have hcz42_2 : wc.cell? ⟨gb132, 2, none⟩ = some (.int .i64 t126) := (blk_cell BK132.out 2).trans rfl
             have hcz42_3 : wc.cell? ⟨gb132, 3, none⟩ = some (.int .i64 t127) := (blk_cell BK132.out 3).trans rfl
             have hcz42_4 : wc.cell? ⟨gb132, 4, none⟩ = some (.int .i64 t128) := (blk_cell BK132.out 4).trans rfl
             have hcz42_5 : wc.cell? ⟨gb132, 5, none⟩ = some (.int .i64 t129) := (blk_cell BK132.out 5).trans rfl
             have hcz42_6 : wc.cell? ⟨gb132, 6, none⟩ = some (.bool t130) := (blk_cell BK132.out 6).trans rfl
             have hfz42_0 := blk_frozen BK132.out 0
             have hfz42_1 := blk_frozen BK132.out 1
             have hfz42_2 := blk_frozen BK132.out 2
             have hfz42_3 := blk_frozen BK132.out 3
             have hfz42_4 := blk_frozen BK132.out 4
             have hfz42_5 := blk_frozen BK132.out 5
             have hfz42_6 := blk_frozen BK132.out 6
             go_wp2
             go_meet
             case rel => exact ⟨_, (!(((l0.length : Int) % 2) == 0)), (by first | rfl | (simp; done) | (simp [*]; done)), H', ⟨by have := HJ1.out; have := HJ8.out; first | omega | exact Nat.le_refl _⟩, ⟨by (with_reducible repeat (first | refine blk_drewN ?_ _ | refine blk_drew ?_ | refine blk_alloc ?_ _)); exact BK122.out⟩, ⟨by (with_reducible repeat (first | refine blk_drewN ?_ _ | refine blk_drew ?_ | refine blk_alloc ?_ _)); exact BK132.out⟩, ⟨(q8f57_ HB.out GE122.out GE132.out)⟩⟩
            ·rw [if_neg c40] at H
             have c40b0 : (t124.toList == ([72, 83, 69, 84] : List UInt8)) = false := beq_eq_false_iff_ne.mpr c40
             have c40b1 : (t124.toList != ([72, 83, 69, 84] : List UInt8)) = true := bne_iff_ne.mpr c40
             have H' := Aside0.mk H
             clear H
             have hnb43 := NB132_122.out
             have hnc43 := NB122_132.out
             have hcz44_0 : wc.cell? ⟨gb132, 0, none⟩ = some (.string t124) := (blk_cell BK132.out 0).trans rfl
             have hcz44_1 : wc.cell? ⟨gb132, 1, none⟩ = some (.int .i64 t125) := (blk_cell BK132.out 1).trans rfl
             have hcz44_2 : wc.cell? ⟨gb132, 2, none⟩ = some (.int .i64 t126) := (blk_cell BK132.out 2).trans rfl
             have hcz44_3 : wc.cell? ⟨gb132, 3, none⟩ = some (.int .i64 t127) := (blk_cell BK132.out 3).trans rfl
             have hcz44_4 : wc.cell? ⟨gb132, 4, none⟩ = some (.int .i64 t128) := (blk_cell BK132.out 4).trans rfl
             have hcz44_5 : wc.cell? ⟨gb132, 5, none⟩ = some (.int .i64 t129) := (blk_cell BK132.out 5).trans rfl
             have hcz44_6 : wc.cell? ⟨gb132, 6, none⟩ = some (.bool t130) := (blk_cell BK132.out 6).trans rfl
             have hfz44_0 := blk_frozen BK132.out 0
             have hfz44_1 := blk_frozen BK132.out 1
             have hfz44_2 := blk_frozen BK132.out 2
             have hfz44_3 := blk_frozen BK132.out 3
             have hfz44_4 := blk_frozen BK132.out 4
             have hfz44_5 := blk_frozen BK132.out 5
             have hfz44_6 := blk_frozen BK132.out 6
             go_wp2
             go_meet
             case rel => exact ⟨_, (false), (by first | rfl | (simp; done) | (simp [*]; done)), H', ⟨by have := HJ1.out; have := HJ8.out; first | omega | exact Nat.le_refl _⟩, ⟨by (with_reducible repeat (first | refine blk_drewN ?_ _ | refine blk_drew ?_ | refine blk_alloc ?_ _)); exact BK122.out⟩, ⟨by (with_reducible repeat (first | refine blk_drewN ?_ _ | refine blk_drew ?_ | refine blk_alloc ?_ _)); exact BK132.out⟩, ⟨(q8f57_ HB.out GE122.out GE132.out)⟩⟩
          ·rw [if_neg c36] at H
           have c36b0 : (t124.toList == ([77, 83, 69, 84, 78, 88] : List UInt8)) = false := beq_eq_false_iff_ne.mpr c36
           have c36b1 : (t124.toList != ([77, 83, 69, 84, 78, 88] : List UInt8)) = true := bne_iff_ne.mpr c36
           by_cases c45 : t124.toList = ([72, 83, 69, 84] : List UInt8)
           ·rw [if_pos c45] at H
            have c45b0 : (t124.toList == ([72, 83, 69, 84] : List UInt8)) = true := beq_iff_eq.mpr c45
            have c45b1 : (t124.toList != ([72, 83, 69, 84] : List UInt8)) = false := bne_eq_false_iff_eq.mpr c45
            clear c45
            have H' := Aside0.mk H
            clear H
            have hnb46 := NB132_122.out
            have hnc46 := NB122_132.out
            have hcz47_0 : wc.cell? ⟨gb132, 0, none⟩ = some (.string t124) := (blk_cell BK132.out 0).trans rfl
            have hcz47_1 : wc.cell? ⟨gb132, 1, none⟩ = some (.int .i64 t125) := (blk_cell BK132.out 1).trans rfl
            have hcz47_2 : wc.cell? ⟨gb132, 2, none⟩ = some (.int .i64 t126) := (blk_cell BK132.out 2).trans rfl
            have hcz47_3 : wc.cell? ⟨gb132, 3, none⟩ = some (.int .i64 t127) := (blk_cell BK132.out 3).trans rfl
            have hcz47_4 : wc.cell? ⟨gb132, 4, none⟩ = some (.int .i64 t128) := (blk_cell BK132.out 4).trans rfl
            have hcz47_5 : wc.cell? ⟨gb132, 5, none⟩ = some (.int .i64 t129) := (blk_cell BK132.out 5).trans rfl
            have hcz47_6 : wc.cell? ⟨gb132, 6, none⟩ = some (.bool t130) := (blk_cell BK132.out 6).trans rfl
            have hfz47_0 := blk_frozen BK132.out 0
            have hfz47_1 := blk_frozen BK132.out 1
            have hfz47_2 := blk_frozen BK132.out 2
            have hfz47_3 := blk_frozen BK132.out 3
            have hfz47_4 := blk_frozen BK132.out 4
            have hfz47_5 := blk_frozen BK132.out 5
            have hfz47_6 := blk_frozen BK132.out 6
            go_wp2
            go_meet
            case rel => exact ⟨_, (!(((l0.length : Int) % 2) == 0)), (by first | rfl | (simp; done) | (simp [*]; done)), H', ⟨by have := HJ1.out; have := HJ8.out; first | omega | exact Nat.le_refl _⟩, ⟨by (with_reducible repeat (first | refine blk_drewN ?_ _ | refine blk_drew ?_ | refine blk_alloc ?_ _)); exact BK122.out⟩, ⟨by (with_reducible repeat (first | refine blk_drewN ?_ _ | refine blk_drew ?_ | refine blk_alloc ?_ _)); exact BK132.out⟩, ⟨(q8f57_ HB.out GE122.out GE132.out)⟩⟩
           ·rw [if_neg c45] at H
            have c45b0 : (t124.toList == ([72, 83, 69, 84] : List UInt8)) = false := beq_eq_false_iff_ne.mpr c45
            have c45b1 : (t124.toList != ([72, 83, 69, 84] : List UInt8)) = true := bne_iff_ne.mpr c45
            have H' := Aside0.mk H
            clear H
            have hnb48 := NB132_122.out
            have hnc48 := NB122_132.out
            have hcz49_0 : wc.cell? ⟨gb132, 0, none⟩ = some (.string t124) := (blk_cell BK132.out 0).trans rfl
            have hcz49_1 : wc.cell? ⟨gb132, 1, none⟩ = some (.int .i64 t125) := (blk_cell BK132.out 1).trans rfl
            have hcz49_2 : wc.cell? ⟨gb132, 2, none⟩ = some (.int .i64 t126) := (blk_cell BK132.out 2).trans rfl
            have hcz49_3 : wc.cell? ⟨gb132, 3, none⟩ = some (.int .i64 t127) := (blk_cell BK132.out 3).trans rfl
            have hcz49_4 : wc.cell? ⟨gb132, 4, none⟩ = some (.int .i64 t128) := (blk_cell BK132.out 4).trans rfl
            have hcz49_5 : wc.cell? ⟨gb132, 5, none⟩ = some (.int .i64 t129) := (blk_cell BK132.out 5).trans rfl
            have hcz49_6 : wc.cell? ⟨gb132, 6, none⟩ = some (.bool t130) := (blk_cell BK132.out 6).trans rfl
            have hfz49_0 := blk_frozen BK132.out 0
            have hfz49_1 := blk_frozen BK132.out 1
            have hfz49_2 := blk_frozen BK132.out 2
            have hfz49_3 := blk_frozen BK132.out 3
            have hfz49_4 := blk_frozen BK132.out 4
            have hfz49_5 := blk_frozen BK132.out 5
            have hfz49_6 := blk_frozen BK132.out 6
            go_wp2
            go_meet
            case rel => exact ⟨_, (false), (by first | rfl | (simp; done) | (simp [*]; done)), H', ⟨by have := HJ1.out; have := HJ8.out; first | omega | exact Nat.le_refl _⟩, ⟨by (with_reducible repeat (first | refine blk_drewN ?_ _ | refine blk_drew ?_ | refine blk_alloc ?_ _)); exact BK122.out⟩, ⟨by (with_reducible repeat (first | refine blk_drewN ?_ _ | refine blk_drew ?_ | refine blk_alloc ?_ _)); exact BK132.out⟩, ⟨(q8f57_ HB.out GE122.out GE132.out)⟩⟩
        case rest =>
         clear HC26
         try clear c1
         try clear p1
         try clear q1
         try clear hx1
         try clear qi1
         try clear c2
         try clear p2
         try clear c3
         try clear c4
         try clear c4b0
         try clear c4b1
         try clear c4b2
         try clear c5
         try clear c7
         try clear c7b0
         try clear c7b1
         try clear c10
         try clear c12
         try clear p12
         try clear q12
         try clear hx12
         try clear qi12
         try clear c14
         try clear c15
         try clear c15b0
         try clear c16
         try clear c18
         try clear c18b0
         try clear c19
         try clear c21
         try clear c23
         try clear c24
         try clear c27
         try clear c27b0
         try clear c27b1
         try clear c28
         try clear c28b0
         try clear c28b1
         try clear c29
         try clear c31
         try clear c31b0
         try clear c31b1
         try clear c32
         try clear c34
         try clear c36
         try clear c36b0
         try clear c36b1
         try clear c37
         try clear c37b0
         try clear c37b1
         try clear c38
         try clear c40
         try clear c40b0
         try clear c40b1
         try clear c41
         try clear c43
         try clear c45
         try clear c45b0
         try clear c45b1
         try clear c46
         try clear c48
         try clear hcz13_0
         try clear hcz13_1
         try clear hcz13_2
         try clear hcz13_3
         try clear hcz13_4
         try clear hcz13_5
         try clear hcz13_6
         try clear hcz17_0
         try clear hcz17_1
         try clear hcz17_2
         try clear hcz17_3
         try clear hcz17_4
         try clear hcz17_5
         try clear hcz17_6
         try clear hcz20_0
         try clear hcz20_1
         try clear hcz20_2
         try clear hcz20_3
         try clear hcz20_4
         try clear hcz20_5
         try clear hcz20_6
         try clear hcz22_0
         try clear hcz22_1
         try clear hcz22_2
         try clear hcz22_3
         try clear hcz22_4
         try clear hcz22_5
         try clear hcz22_6
         try clear hcz25_0
         try clear hcz25_1
         try clear hcz25_2
         try clear hcz25_3
         try clear hcz25_4
         try clear hcz25_5
         try clear hcz25_6
         try clear hcz30_0
         try clear hcz30_1
         try clear hcz30_2
         try clear hcz30_3
         try clear hcz30_4
         try clear hcz30_5
         try clear hcz30_6
         try clear hcz33_0
         try clear hcz33_1
         try clear hcz33_2
         try clear hcz33_3
         try clear hcz33_4
         try clear hcz33_5
         try clear hcz33_6
         try clear hcz35_0
         try clear hcz35_1
         try clear hcz35_2
         try clear hcz35_3
         try clear hcz35_4
         try clear hcz35_5
         try clear hcz35_6
         try clear hcz39_0
         try clear hcz39_1
         try clear hcz39_2
         try clear hcz39_3
         try clear hcz39_4
         try clear hcz39_5
         try clear hcz39_6
         try clear hcz42_0
         try clear hcz42_1
         try clear hcz42_2
         try clear hcz42_3
         try clear hcz42_4
         try clear hcz42_5
         try clear hcz42_6
         try clear hcz44_0
         try clear hcz44_1
         try clear hcz44_2
         try clear hcz44_3
         try clear hcz44_4
         try clear hcz44_5
         try clear hcz44_6
         try clear hcz47_0
         try clear hcz47_1
         try clear hcz47_2
         try clear hcz47_3
         try clear hcz47_4
         try clear hcz47_5
         try clear hcz47_6
         try clear hcz49_0
         try clear hcz49_1
         try clear hcz49_2
         try clear hcz49_3
         try clear hcz49_4
         try clear hcz49_5
         try clear hcz49_6
         try clear hcz6_0
         try clear hcz6_1
         try clear hcz6_2
         try clear hcz6_3
         try clear hcz6_4
         try clear hcz6_5
         try clear hcz6_6
         try clear hfz13_0
         try clear hfz13_1
         try clear hfz13_2
         try clear hfz13_3
         try clear hfz13_4
         try clear hfz13_5
         try clear hfz13_6
         try clear hfz17_0
         try clear hfz17_1
         try clear hfz17_2
         try clear hfz17_3
         try clear hfz17_4
         try clear hfz17_5
         try clear hfz17_6
         try clear hfz20_0
         try clear hfz20_1
         try clear hfz20_2
         try clear hfz20_3
         try clear hfz20_4
         try clear hfz20_5
         try clear hfz20_6
         try clear hfz22_0
         try clear hfz22_1
         try clear hfz22_2
         try clear hfz22_3
         try clear hfz22_4
         try clear hfz22_5
         try clear hfz22_6
         try clear hfz25_0
         try clear hfz25_1
         try clear hfz25_2
         try clear hfz25_3
         try clear hfz25_4
         try clear hfz25_5
         try clear hfz25_6
         try clear hfz30_0
         try clear hfz30_1
         try clear hfz30_2
         try clear hfz30_3
         try clear hfz30_4
         try clear hfz30_5
         try clear hfz30_6
         try clear hfz33_0
         try clear hfz33_1
         try clear hfz33_2
         try clear hfz33_3
         try clear hfz33_4
         try clear hfz33_5
         try clear hfz33_6
         try clear hfz35_0
         try clear hfz35_1
         try clear hfz35_2
         try clear hfz35_3
         try clear hfz35_4
         try clear hfz35_5
         try clear hfz35_6
         try clear hfz39_0
         try clear hfz39_1
         try clear hfz39_2
         try clear hfz39_3
         try clear hfz39_4
         try clear hfz39_5
         try clear hfz39_6
         try clear hfz42_0
         try clear hfz42_1
         try clear hfz42_2
         try clear hfz42_3
         try clear hfz42_4
         try clear hfz42_5
         try clear hfz42_6
         try clear hfz44_0
         try clear hfz44_1
         try clear hfz44_2
         try clear hfz44_3
         try clear hfz44_4
         try clear hfz44_5
         try clear hfz44_6
         try clear hfz47_0
         try clear hfz47_1
         try clear hfz47_2
         try clear hfz47_3
         try clear hfz47_4
         try clear hfz47_5
         try clear hfz47_6
         try clear hfz49_0
         try clear hfz49_1
         try clear hfz49_2
         try clear hfz49_3
         try clear hfz49_4
         try clear hfz49_5
         try clear hfz49_6
         try clear hfz6_0
         try clear hfz6_1
         try clear hfz6_2
         try clear hfz6_3
         try clear hfz6_4
         try clear hfz6_5
         try clear hfz6_6
         try clear hx123_0
         try clear p1
         try clear p12
         try clear p123
         try clear p2
         try clear q1
         try clear q12
         try clear q123
         obtain ⟨kq, x70_25, rfl, HA, HJ25, BK122, BK132, HB⟩ := hcut
         cases kq with
         | zero => exact absurd HA.out (by simp [caravanref1_Check.j2])
         | succ kj25 =>
          have H := HA.out
          clear HA
          simp only [caravanref1_Check.j2] at H
          by_cases c50 : x70_25 = true
          ·subst c50
           have H1 : (some ((⟨#[]⟩ : ByteArray), 0, 0, 0, 0, 0, false, false)) = some (r1, r2, r3, r4, r5, r6, r7, r8) := by rw [if_pos rfl] at H; exact H
           clear H
           have H := H1
           clear H1
           simp only [Option.some.injEq, Prod.mk.injEq] at H
           obtain ⟨rfl, rfl, rfl, rfl, rfl, rfl, rfl, rfl⟩ := H
           have hnb51 := NB122_132.out
           have hnc51 := NB132_122.out
           have hcz52_0 : wc.cell? ⟨gb122, 0, none⟩ = some (.string (⟨#[]⟩ : ByteArray)) := (blk_cell BK122.out 0).trans rfl
           have hcz52_1 : wc.cell? ⟨gb122, 1, none⟩ = some (.int .i64 0) := (blk_cell BK122.out 1).trans rfl
           have hcz52_2 : wc.cell? ⟨gb122, 2, none⟩ = some (.int .i64 0) := (blk_cell BK122.out 2).trans rfl
           have hcz52_3 : wc.cell? ⟨gb122, 3, none⟩ = some (.int .i64 0) := (blk_cell BK122.out 3).trans rfl
           have hcz52_4 : wc.cell? ⟨gb122, 4, none⟩ = some (.int .i64 0) := (blk_cell BK122.out 4).trans rfl
           have hcz52_5 : wc.cell? ⟨gb122, 5, none⟩ = some (.int .i64 0) := (blk_cell BK122.out 5).trans rfl
           have hcz52_6 : wc.cell? ⟨gb122, 6, none⟩ = some (.bool false) := (blk_cell BK122.out 6).trans rfl
           have hfz52_0 := blk_frozen BK122.out 0
           have hfz52_1 := blk_frozen BK122.out 1
           have hfz52_2 := blk_frozen BK122.out 2
           have hfz52_3 := blk_frozen BK122.out 3
           have hfz52_4 := blk_frozen BK122.out 4
           have hfz52_5 := blk_frozen BK122.out 5
           have hfz52_6 := blk_frozen BK122.out 6
           go_wp2
           refine bodyPost_ret (results_ct rfl _ _ gb122 26 #[.string (⟨#[]⟩ : ByteArray), .int .i64 0, .int .i64 0, .int .i64 0, .int .i64 0, .int .i64 0, .bool false] (0, 0) _ rfl (by (with_reducible repeat (first | refine blk_drewN ?_ _ | refine blk_drew ?_ | refine blk_alloc ?_ _)); refine blk_put (cs := #[.string (⟨#[]⟩ : ByteArray), .int .i64 0, .int .i64 0, .int .i64 0, .int .i64 0, .int .i64 0, .bool false]) ?_ 6 _ rfl; (with_reducible repeat (first | refine blk_drewN ?_ _ | refine blk_drew ?_ | refine blk_alloc ?_ _)); refine blk_put (cs := #[.string (⟨#[]⟩ : ByteArray), .int .i64 0, .int .i64 0, .int .i64 0, .int .i64 0, .int .i64 0, .bool false]) ?_ 5 _ rfl; (with_reducible repeat (first | refine blk_drewN ?_ _ | refine blk_drew ?_ | refine blk_alloc ?_ _)); refine blk_put (cs := #[.string (⟨#[]⟩ : ByteArray), .int .i64 0, .int .i64 0, .int .i64 0, .int .i64 0, .int .i64 0, .bool false]) ?_ 4 _ rfl; (with_reducible repeat (first | refine blk_drewN ?_ _ | refine blk_drew ?_ | refine blk_alloc ?_ _)); refine blk_put (cs := #[.string (⟨#[]⟩ : ByteArray), .int .i64 0, .int .i64 0, .int .i64 0, .int .i64 0, .int .i64 0, .bool false]) ?_ 3 _ rfl; (with_reducible repeat (first | refine blk_drewN ?_ _ | refine blk_drew ?_ | refine blk_alloc ?_ _)); refine blk_put (cs := #[.string (⟨#[]⟩ : ByteArray), .int .i64 0, .int .i64 0, .int .i64 0, .int .i64 0, .int .i64 0, .bool false]) ?_ 2 _ rfl; (with_reducible repeat (first | refine blk_drewN ?_ _ | refine blk_drew ?_ | refine blk_alloc ?_ _)); refine blk_put (cs := #[.string (⟨#[]⟩ : ByteArray), .int .i64 0, .int .i64 0, .int .i64 0, .int .i64 0, .int .i64 0, .bool false]) ?_ 1 _ rfl; (with_reducible repeat (first | refine blk_drewN ?_ _ | refine blk_drew ?_ | refine blk_alloc ?_ _)); refine blk_put (cs := #[.string (⟨#[]⟩ : ByteArray), .int .i64 0, .int .i64 0, .int .i64 0, .int .i64 0, .int .i64 0, .bool false]) ?_ 0 _ rfl; (with_reducible repeat (first | refine blk_drewN ?_ _ | refine blk_drew ?_ | refine blk_alloc ?_ _)); exact BK122.out) Try.underlying26 rfl (by kernel_rfl)) rfl ?_
           exact ⟨by first | rfl | (simp [errW_none, errW_some] <;> rfl) | (simp [*, errW_none, errW_some] <;> rfl), (q8f57_ HB.out GE122.out GE132.out)⟩
          ·replace c50 := Bool.eq_false_iff.mpr c50
           subst c50
           have H1 : ((caravanref1_keys.f kj25 t124 t125 t126 t127 t128 t129 t130 l0).bind fun t133 => (caravanref1_Check.l0 kj25 t133 0 t124 t125 t126 t127 t128 t129 t130)) = some (r1, r2, r3, r4, r5, r6, r7, r8) := by rw [if_neg (show ¬ (false = true) by decide)] at H; exact H
           clear H
           have H := H1
           clear H1
           replace H := Option.bind_eq_some_iff.mp H
           obtain ⟨t133, A530, H⟩ := H
           replace H : (caravanref1_Check.l0 kj25 t133 0 t124 t125 t126 t127 t128 t129 t130) = some (r1, r2, r3, r4, r5, r6, r7, r8) := H
           have A53 := Aside0.mk A530
           clear A530
           have H' := Aside0.mk H
           clear H
           have hnb54 := NB132_122.out
           have hnc54 := NB122_132.out
           have hcz55_0 : wc.cell? ⟨gb132, 0, none⟩ = some (.string t124) := (blk_cell BK132.out 0).trans rfl
           have hcz55_1 : wc.cell? ⟨gb132, 1, none⟩ = some (.int .i64 t125) := (blk_cell BK132.out 1).trans rfl
           have hcz55_2 : wc.cell? ⟨gb132, 2, none⟩ = some (.int .i64 t126) := (blk_cell BK132.out 2).trans rfl
           have hcz55_3 : wc.cell? ⟨gb132, 3, none⟩ = some (.int .i64 t127) := (blk_cell BK132.out 3).trans rfl
           have hcz55_4 : wc.cell? ⟨gb132, 4, none⟩ = some (.int .i64 t128) := (blk_cell BK132.out 4).trans rfl
           have hcz55_5 : wc.cell? ⟨gb132, 5, none⟩ = some (.int .i64 t129) := (blk_cell BK132.out 5).trans rfl
           have hcz55_6 : wc.cell? ⟨gb132, 6, none⟩ = some (.bool t130) := (blk_cell BK132.out 6).trans rfl
           have hfz55_0 := blk_frozen BK132.out 0
           have hfz55_1 := blk_frozen BK132.out 1
           have hfz55_2 := blk_frozen BK132.out 2
           have hfz55_3 := blk_frozen BK132.out 3
           have hfz55_4 := blk_frozen BK132.out 4
           have hfz55_5 := blk_frozen BK132.out 5
           have hfz55_6 := blk_frozen BK132.out 6
           go_wp2_with (first | ((with_reducible refine gate_callee (f := 21) rfl ?_); refine goesL_ (some 74) rfl rfl Try.func21 (by kernel_rfl) rfl #[.agg #[.string t124, .int .i64 t125, .int .i64 t126, .int .i64 t127, .int .i64 t128, .int .i64 t129, .bool t130], .slice (some ad123) l0.length c0] rfl qM_ ?_; (with_reducible refine (caravanref1_keys.calls kj25 t124 t125 t126 t127 t128 t129 t130 _ _ l0 t133 _ ?side1 ?side2 A53.out).mono ?_); (case side1 => exact qC_ ((Kd.C_below HR0.out HB.out))); (case side2 => exact HC0.out); rintro e w56 ⟨v134, rfl, ho0, hb⟩; refine ⟨_, rfl, ?_⟩; have n0_ := Aside0.mk (Kd.R_lower ho0 (below_size (q8f57_ HB.out GE122.out GE132.out))); have n1_ := Aside0.mk (blk_below (g := gb122) (o := .cells #[.string (⟨#[]⟩ : ByteArray), .int .i64 0, .int .i64 0, .int .i64 0, .int .i64 0, .int .i64 0, .bool false] 26 (0, 0)) (q1466_ BK122.out) hb); have n2_ := Aside0.mk (blk_below (g := gb132) (o := .cells #[.string t124, .int .i64 t125, .int .i64 t126, .int .i64 t127, .int .i64 t128, .int .i64 t129, .bool t130] 26 (0, 0)) (q1466_ BK132.out) hb); have n3_ := Aside0.mk (below_step (q8f57_ HB.out GE122.out GE132.out) hb); clear BK122; clear BK132; clear HB; have HO135 := n0_; have BK122 := n1_; have BK132 := n2_; have HB := n3_; clear n0_ n1_ n2_ n3_; (try clear hb); (try clear hb2); (try clear hk); (try clear hi); (try clear ho0)))
           go_loopg [8] kj25 (fun kq v8 w' => ∃ (x8_4 : Int) (x123000_4 : ByteArray) (x123001_4 : Int) (x123002_4 : Int) (x123003_4 : Int) (x123004_4 : Int) (x123005_4 : Int) (x123006_4 : Bool), v8 = .int .i64 x8_4 ∧ Aside0 (caravanref1_Check.l0 kq t133 x8_4 t124 t125 t126 t127 t128 t129 t130 = some (r1, r2, r3, r4, r5, r6, r7, r8)) ∧ Aside0 (kq ≤ kj25) ∧ Aside0 (Kd.R Kd.string 9 w' w.heap.size (fun _ => True) v134 t133) ∧ Aside0 (w'.heap[gb122]? = some (.cells #[.string x123000_4, .int .i64 x123001_4, .int .i64 x123002_4, .int .i64 x123003_4, .int .i64 x123004_4, .int .i64 x123005_4, .bool x123006_4] 26 (0, 0))) ∧ Aside0 (w'.heap[gb132]? = some (.cells #[.string t124, .int .i64 t125, .int .i64 t126, .int .i64 t127, .int .i64 t128, .int .i64 t129, .bool t130] 26 (0, 0))) ∧ Aside0 (Below w.heap.size w w'))
           case atStart => exact ⟨(0), ((⟨#[]⟩ : ByteArray)), (0), (0), (0), (0), (0), (false), (by first | rfl | (simp; done) | (simp [*]; done)), H', ⟨Nat.le_refl _⟩, ⟨by (with_reducible repeat (first | apply Kd.R_alloc | apply Kd.R_drewN | apply Kd.R_drew)); exact HO135.out⟩, ⟨by (with_reducible repeat (first | refine blk_drewN ?_ _ | refine blk_drew ?_ | refine blk_alloc ?_ _)); exact BK122.out⟩, ⟨by (with_reducible repeat (first | refine blk_drewN ?_ _ | refine blk_drew ?_ | refine blk_alloc ?_ _)); exact BK132.out⟩, ⟨(q8f57_ HB.out GE122.out GE132.out)⟩⟩
           case round =>
            clear H'
            try clear c1
            try clear p1
            try clear q1
            try clear hx1
            try clear qi1
            try clear c2
            try clear p2
            try clear c3
            try clear c4
            try clear c4b0
            try clear c4b1
            try clear c4b2
            try clear c5
            try clear c7
            try clear c7b0
            try clear c7b1
            try clear c10
            try clear c12
            try clear p12
            try clear q12
            try clear hx12
            try clear qi12
            try clear c14
            try clear c15
            try clear c15b0
            try clear c16
            try clear c18
            try clear c18b0
            try clear c19
            try clear c21
            try clear c23
            try clear c24
            try clear c27
            try clear c27b0
            try clear c27b1
            try clear c28
            try clear c28b0
            try clear c28b1
            try clear c29
            try clear c31
            try clear c31b0
            try clear c31b1
            try clear c32
            try clear c34
            try clear c36
            try clear c36b0
            try clear c36b1
            try clear c37
            try clear c37b0
            try clear c37b1
            try clear c38
            try clear c40
            try clear c40b0
            try clear c40b1
            try clear c41
            try clear c43
            try clear c45
            try clear c45b0
            try clear c45b1
            try clear c46
            try clear c48
            try clear c50
            try clear c51
            try clear c54
            try clear hcz13_0
            try clear hcz13_1
            try clear hcz13_2
            try clear hcz13_3
            try clear hcz13_4
            try clear hcz13_5
            try clear hcz13_6
            try clear hcz17_0
            try clear hcz17_1
            try clear hcz17_2
            try clear hcz17_3
            try clear hcz17_4
            try clear hcz17_5
            try clear hcz17_6
            try clear hcz20_0
            try clear hcz20_1
            try clear hcz20_2
            try clear hcz20_3
            try clear hcz20_4
            try clear hcz20_5
            try clear hcz20_6
            try clear hcz22_0
            try clear hcz22_1
            try clear hcz22_2
            try clear hcz22_3
            try clear hcz22_4
            try clear hcz22_5
            try clear hcz22_6
            try clear hcz25_0
            try clear hcz25_1
            try clear hcz25_2
            try clear hcz25_3
            try clear hcz25_4
            try clear hcz25_5
            try clear hcz25_6
            try clear hcz30_0
            try clear hcz30_1
            try clear hcz30_2
            try clear hcz30_3
            try clear hcz30_4
            try clear hcz30_5
            try clear hcz30_6
            try clear hcz33_0
            try clear hcz33_1
            try clear hcz33_2
            try clear hcz33_3
            try clear hcz33_4
            try clear hcz33_5
            try clear hcz33_6
            try clear hcz35_0
            try clear hcz35_1
            try clear hcz35_2
            try clear hcz35_3
            try clear hcz35_4
            try clear hcz35_5
            try clear hcz35_6
            try clear hcz39_0
            try clear hcz39_1
            try clear hcz39_2
            try clear hcz39_3
            try clear hcz39_4
            try clear hcz39_5
            try clear hcz39_6
            try clear hcz42_0
            try clear hcz42_1
            try clear hcz42_2
            try clear hcz42_3
            try clear hcz42_4
            try clear hcz42_5
            try clear hcz42_6
            try clear hcz44_0
            try clear hcz44_1
            try clear hcz44_2
            try clear hcz44_3
            try clear hcz44_4
            try clear hcz44_5
            try clear hcz44_6
            try clear hcz47_0
            try clear hcz47_1
            try clear hcz47_2
            try clear hcz47_3
            try clear hcz47_4
            try clear hcz47_5
            try clear hcz47_6
            try clear hcz49_0
            try clear hcz49_1
            try clear hcz49_2
            try clear hcz49_3
            try clear hcz49_4
            try clear hcz49_5
            try clear hcz49_6
            try clear hcz52_0
            try clear hcz52_1
            try clear hcz52_2
            try clear hcz52_3
            try clear hcz52_4
            try clear hcz52_5
            try clear hcz52_6
            try clear hcz55_0
            try clear hcz55_1
            try clear hcz55_2
            try clear hcz55_3
            try clear hcz55_4
            try clear hcz55_5
            try clear hcz55_6
            try clear hcz6_0
            try clear hcz6_1
            try clear hcz6_2
            try clear hcz6_3
            try clear hcz6_4
            try clear hcz6_5
            try clear hcz6_6
            try clear hfz13_0
            try clear hfz13_1
            try clear hfz13_2
            try clear hfz13_3
            try clear hfz13_4
            try clear hfz13_5
            try clear hfz13_6
            try clear hfz17_0
            try clear hfz17_1
            try clear hfz17_2
            try clear hfz17_3
            try clear hfz17_4
            try clear hfz17_5
            try clear hfz17_6
            try clear hfz20_0
            try clear hfz20_1
            try clear hfz20_2
            try clear hfz20_3
            try clear hfz20_4
            try clear hfz20_5
            try clear hfz20_6
            try clear hfz22_0
            try clear hfz22_1
            try clear hfz22_2
            try clear hfz22_3
            try clear hfz22_4
            try clear hfz22_5
            try clear hfz22_6
            try clear hfz25_0
            try clear hfz25_1
            try clear hfz25_2
            try clear hfz25_3
            try clear hfz25_4
            try clear hfz25_5
            try clear hfz25_6
            try clear hfz30_0
            try clear hfz30_1
            try clear hfz30_2
            try clear hfz30_3
            try clear hfz30_4
            try clear hfz30_5
            try clear hfz30_6
            try clear hfz33_0
            try clear hfz33_1
            try clear hfz33_2
            try clear hfz33_3
            try clear hfz33_4
            try clear hfz33_5
            try clear hfz33_6
            try clear hfz35_0
            try clear hfz35_1
            try clear hfz35_2
            try clear hfz35_3
            try clear hfz35_4
            try clear hfz35_5
            try clear hfz35_6
            try clear hfz39_0
            try clear hfz39_1
            try clear hfz39_2
            try clear hfz39_3
            try clear hfz39_4
            try clear hfz39_5
            try clear hfz39_6
            try clear hfz42_0
            try clear hfz42_1
            try clear hfz42_2
            try clear hfz42_3
            try clear hfz42_4
            try clear hfz42_5
            try clear hfz42_6
            try clear hfz44_0
            try clear hfz44_1
            try clear hfz44_2
            try clear hfz44_3
            try clear hfz44_4
            try clear hfz44_5
            try clear hfz44_6
            try clear hfz47_0
            try clear hfz47_1
            try clear hfz47_2
            try clear hfz47_3
            try clear hfz47_4
            try clear hfz47_5
            try clear hfz47_6
            try clear hfz49_0
            try clear hfz49_1
            try clear hfz49_2
            try clear hfz49_3
            try clear hfz49_4
            try clear hfz49_5
            try clear hfz49_6
            try clear hfz52_0
            try clear hfz52_1
            try clear hfz52_2
            try clear hfz52_3
            try clear hfz52_4
            try clear hfz52_5
            try clear hfz52_6
            try clear hfz55_0
            try clear hfz55_1
            try clear hfz55_2
            try clear hfz55_3
            try clear hfz55_4
            try clear hfz55_5
            try clear hfz55_6
            try clear hfz6_0
            try clear hfz6_1
            try clear hfz6_2
            try clear hfz6_3
            try clear hfz6_4
            try clear hfz6_5
            try clear hfz6_6
            try clear hx123_0
            try clear p1
            try clear p12
            try clear p123
            try clear p2
            try clear q1
            try clear q12
            try clear q123
            obtain ⟨x8_4, x123000_4, x123001_4, x123002_4, x123003_4, x123004_4, x123005_4, x123006_4, rfl, HA, HK4, HO_7, BK122, BK132, HB⟩ := hrel
            cases gk with
            | zero => exact absurd HA.out (by simp [caravanref1_Check.l0])
            | succ k4 =>
             have H := HA.out
             clear HA
             simp only [caravanref1_Check.l0] at H
             by_cases c57 : x8_4 < (t133.length : Int)
             ·rw [if_pos c57] at H
              have c57b0 : decide (x8_4 < (t133.length : Int)) = true := decide_eq_true c57
              clear c57
              by_cases c58 : 0 ≤ x8_4
              ·rw [if_pos c58] at H
               have c58b0 : decide (0 ≤ x8_4) = true := decide_eq_true c58
               clear c58
               by_cases c59 : ((rdOf ByteArray.empty t133 x8_4).size : Int) > 40
               ·rw [if_pos c59] at H
                have c59b0 : decide (40 < ((rdOf ByteArray.empty t133 x8_4).size : Int)) = true := decide_eq_true c59
                have c59b1 : decide (40 < (rdOf ByteArray.empty t133 x8_4).size) = true := decide_eq_true (by omega)
                clear c59
                simp only [Option.some.injEq, Prod.mk.injEq] at H
                obtain ⟨rfl, rfl, rfl, rfl, rfl, rfl, rfl, rfl⟩ := H
                obtain ⟨Ao60, co60, eo60⟩ := Kd.R_slice HO_7.out
                subst eo60
                have p136 : 0 ≤ (x8_4 : Int) := of_decide_eq_true (by first | (with_reducible assumption) | assumption)
                have q136 : x8_4 < (t133.length : Int) := of_decide_eq_true (by first | (with_reducible assumption) | assumption)
                obtain ⟨ad136, e136, hx136_0⟩ := Kd.at_string (Kd.R_reads' HO_7.out).2.2 x8_4 p136 q136
                cases e136
                replace p136 := eq_true p136
                replace q136 := eq_true q136
                have hnb61 := NB122_132.out
                have hnc61 := NB132_122.out
                have hcz62_0 : wr.cell? ⟨gb122, 0, none⟩ = some (.string x123000_4) := (blk_cell BK122.out 0).trans rfl
                have hcz62_1 : wr.cell? ⟨gb122, 1, none⟩ = some (.int .i64 x123001_4) := (blk_cell BK122.out 1).trans rfl
                have hcz62_2 : wr.cell? ⟨gb122, 2, none⟩ = some (.int .i64 x123002_4) := (blk_cell BK122.out 2).trans rfl
                have hcz62_3 : wr.cell? ⟨gb122, 3, none⟩ = some (.int .i64 x123003_4) := (blk_cell BK122.out 3).trans rfl
                have hcz62_4 : wr.cell? ⟨gb122, 4, none⟩ = some (.int .i64 x123004_4) := (blk_cell BK122.out 4).trans rfl
                have hcz62_5 : wr.cell? ⟨gb122, 5, none⟩ = some (.int .i64 x123005_4) := (blk_cell BK122.out 5).trans rfl
                have hcz62_6 : wr.cell? ⟨gb122, 6, none⟩ = some (.bool x123006_4) := (blk_cell BK122.out 6).trans rfl
                have hfz62_0 := blk_frozen BK122.out 0
                have hfz62_1 := blk_frozen BK122.out 1
                have hfz62_2 := blk_frozen BK122.out 2
                have hfz62_3 := blk_frozen BK122.out 3
                have hfz62_4 := blk_frozen BK122.out 4
                have hfz62_5 := blk_frozen BK122.out 5
                have hfz62_6 := blk_frozen BK122.out 6
                go_wp2
                refine bodyPost_ret (results_ct rfl _ _ gb122 26 #[.string (⟨#[]⟩ : ByteArray), .int .i64 0, .int .i64 0, .int .i64 0, .int .i64 0, .int .i64 0, .bool false] (0, 0) _ rfl (by (with_reducible repeat (first | refine blk_drewN ?_ _ | refine blk_drew ?_ | refine blk_alloc ?_ _)); refine blk_put (cs := #[.string (⟨#[]⟩ : ByteArray), .int .i64 0, .int .i64 0, .int .i64 0, .int .i64 0, .int .i64 0, .bool x123006_4]) ?_ 6 _ rfl; (with_reducible repeat (first | refine blk_drewN ?_ _ | refine blk_drew ?_ | refine blk_alloc ?_ _)); refine blk_put (cs := #[.string (⟨#[]⟩ : ByteArray), .int .i64 0, .int .i64 0, .int .i64 0, .int .i64 0, .int .i64 x123005_4, .bool x123006_4]) ?_ 5 _ rfl; (with_reducible repeat (first | refine blk_drewN ?_ _ | refine blk_drew ?_ | refine blk_alloc ?_ _)); refine blk_put (cs := #[.string (⟨#[]⟩ : ByteArray), .int .i64 0, .int .i64 0, .int .i64 0, .int .i64 x123004_4, .int .i64 x123005_4, .bool x123006_4]) ?_ 4 _ rfl; (with_reducible repeat (first | refine blk_drewN ?_ _ | refine blk_drew ?_ | refine blk_alloc ?_ _)); refine blk_put (cs := #[.string (⟨#[]⟩ : ByteArray), .int .i64 0, .int .i64 0, .int .i64 x123003_4, .int .i64 x123004_4, .int .i64 x123005_4, .bool x123006_4]) ?_ 3 _ rfl; (with_reducible repeat (first | refine blk_drewN ?_ _ | refine blk_drew ?_ | refine blk_alloc ?_ _)); refine blk_put (cs := #[.string (⟨#[]⟩ : ByteArray), .int .i64 0, .int .i64 x123002_4, .int .i64 x123003_4, .int .i64 x123004_4, .int .i64 x123005_4, .bool x123006_4]) ?_ 2 _ rfl; (with_reducible repeat (first | refine blk_drewN ?_ _ | refine blk_drew ?_ | refine blk_alloc ?_ _)); refine blk_put (cs := #[.string (⟨#[]⟩ : ByteArray), .int .i64 x123001_4, .int .i64 x123002_4, .int .i64 x123003_4, .int .i64 x123004_4, .int .i64 x123005_4, .bool x123006_4]) ?_ 1 _ rfl; (with_reducible repeat (first | refine blk_drewN ?_ _ | refine blk_drew ?_ | refine blk_alloc ?_ _)); refine blk_put (cs := #[.string x123000_4, .int .i64 x123001_4, .int .i64 x123002_4, .int .i64 x123003_4, .int .i64 x123004_4, .int .i64 x123005_4, .bool x123006_4]) ?_ 0 _ rfl; (with_reducible repeat (first | refine blk_drewN ?_ _ | refine blk_drew ?_ | refine blk_alloc ?_ _)); exact BK122.out) Try.underlying26 rfl (by kernel_rfl)) rfl ?_
                exact ⟨by first | rfl | (simp [errW_none, errW_some] <;> rfl) | (simp [*, errW_none, errW_some] <;> rfl), (q8f57_ HB.out GE122.out GE132.out)⟩
               ·rw [if_neg c59] at H
                have c59b0 : decide (40 < ((rdOf ByteArray.empty t133 x8_4).size : Int)) = false := decide_eq_false c59
                have c59b1 : decide (40 < (rdOf ByteArray.empty t133 x8_4).size) = false := decide_eq_false (by omega)
                clear c59
                have H' := Aside0.mk H
                clear H
                obtain ⟨Ao63, co63, eo63⟩ := Kd.R_slice HO_7.out
                subst eo63
                have p136 : 0 ≤ (x8_4 : Int) := of_decide_eq_true (by first | (with_reducible assumption) | assumption)
                have q136 : x8_4 < (t133.length : Int) := of_decide_eq_true (by first | (with_reducible assumption) | assumption)
                obtain ⟨ad136, e136, hx136_0⟩ := Kd.at_string (Kd.R_reads' HO_7.out).2.2 x8_4 p136 q136
                cases e136
                replace p136 := eq_true p136
                replace q136 := eq_true q136
                go_wp2
                go_roundg k4
                case measure => have := HJ1.out; have := HJ8.out; have := HJ25.out; have := HK4.out; omega
                case rel => exact ⟨(wrap64 (x8_4 + 1)), (x123000_4), (x123001_4), (x123002_4), (x123003_4), (x123004_4), (x123005_4), (x123006_4), (by first | rfl | (simp; done) | (simp [*]; done)), H', ⟨by have := HJ1.out; have := HJ8.out; have := HJ25.out; have := HK4.out; omega⟩, ⟨by (with_reducible repeat (first | apply Kd.R_alloc | apply Kd.R_drewN | apply Kd.R_drew)); exact HO_7.out⟩, ⟨by (with_reducible repeat (first | refine blk_drewN ?_ _ | refine blk_drew ?_ | refine blk_alloc ?_ _)); exact BK122.out⟩, ⟨by (with_reducible repeat (first | refine blk_drewN ?_ _ | refine blk_drew ?_ | refine blk_alloc ?_ _)); exact BK132.out⟩, ⟨(q8f57_ HB.out GE122.out GE132.out)⟩⟩
              ·rw [if_neg c58] at H
               exact absurd H (by simp)
             ·rw [if_neg c57] at H
              have c57b0 : decide (x8_4 < (t133.length : Int)) = false := decide_eq_false c57
              clear c57
              simp only [Option.some.injEq, Prod.mk.injEq] at H
              obtain ⟨rfl, rfl, rfl, rfl, rfl, rfl, rfl, rfl⟩ := H
              obtain ⟨Ao64, co64, eo64⟩ := Kd.R_slice HO_7.out
              subst eo64
              have hnb65 := NB132_122.out
              have hnc65 := NB122_132.out
              have hcz66_0 : wr.cell? ⟨gb132, 0, none⟩ = some (.string t124) := (blk_cell BK132.out 0).trans rfl
              have hcz66_1 : wr.cell? ⟨gb132, 1, none⟩ = some (.int .i64 t125) := (blk_cell BK132.out 1).trans rfl
              have hcz66_2 : wr.cell? ⟨gb132, 2, none⟩ = some (.int .i64 t126) := (blk_cell BK132.out 2).trans rfl
              have hcz66_3 : wr.cell? ⟨gb132, 3, none⟩ = some (.int .i64 t127) := (blk_cell BK132.out 3).trans rfl
              have hcz66_4 : wr.cell? ⟨gb132, 4, none⟩ = some (.int .i64 t128) := (blk_cell BK132.out 4).trans rfl
              have hcz66_5 : wr.cell? ⟨gb132, 5, none⟩ = some (.int .i64 t129) := (blk_cell BK132.out 5).trans rfl
              have hcz66_6 : wr.cell? ⟨gb132, 6, none⟩ = some (.bool t130) := (blk_cell BK132.out 6).trans rfl
              have hfz66_0 := blk_frozen BK132.out 0
              have hfz66_1 := blk_frozen BK132.out 1
              have hfz66_2 := blk_frozen BK132.out 2
              have hfz66_3 := blk_frozen BK132.out 3
              have hfz66_4 := blk_frozen BK132.out 4
              have hfz66_5 := blk_frozen BK132.out 5
              have hfz66_6 := blk_frozen BK132.out 6
              have hcz67_0 : wr.cell? ⟨gb122, 0, none⟩ = some (.string x123000_4) := (blk_cell BK122.out 0).trans rfl
              have hcz67_1 : wr.cell? ⟨gb122, 1, none⟩ = some (.int .i64 x123001_4) := (blk_cell BK122.out 1).trans rfl
              have hcz67_2 : wr.cell? ⟨gb122, 2, none⟩ = some (.int .i64 x123002_4) := (blk_cell BK122.out 2).trans rfl
              have hcz67_3 : wr.cell? ⟨gb122, 3, none⟩ = some (.int .i64 x123003_4) := (blk_cell BK122.out 3).trans rfl
              have hcz67_4 : wr.cell? ⟨gb122, 4, none⟩ = some (.int .i64 x123004_4) := (blk_cell BK122.out 4).trans rfl
              have hcz67_5 : wr.cell? ⟨gb122, 5, none⟩ = some (.int .i64 x123005_4) := (blk_cell BK122.out 5).trans rfl
              have hcz67_6 : wr.cell? ⟨gb122, 6, none⟩ = some (.bool x123006_4) := (blk_cell BK122.out 6).trans rfl
              have hfz67_0 := blk_frozen BK122.out 0
              have hfz67_1 := blk_frozen BK122.out 1
              have hfz67_2 := blk_frozen BK122.out 2
              have hfz67_3 := blk_frozen BK122.out 3
              have hfz67_4 := blk_frozen BK122.out 4
              have hfz67_5 := blk_frozen BK122.out 5
              have hfz67_6 := blk_frozen BK122.out 6
              go_wp2
              refine bodyPost_ret (results_ct rfl _ _ gb122 26 #[.string t124, .int .i64 t125, .int .i64 t126, .int .i64 t127, .int .i64 t128, .int .i64 t129, .bool t130] (0, 0) _ rfl (by (with_reducible repeat (first | refine blk_drewN ?_ _ | refine blk_drew ?_ | refine blk_alloc ?_ _)); refine blk_put (cs := #[.string t124, .int .i64 t125, .int .i64 t126, .int .i64 t127, .int .i64 t128, .int .i64 t129, .bool x123006_4]) ?_ 6 _ rfl; (with_reducible repeat (first | refine blk_drewN ?_ _ | refine blk_drew ?_ | refine blk_alloc ?_ _)); refine blk_put (cs := #[.string t124, .int .i64 t125, .int .i64 t126, .int .i64 t127, .int .i64 t128, .int .i64 x123005_4, .bool x123006_4]) ?_ 5 _ rfl; (with_reducible repeat (first | refine blk_drewN ?_ _ | refine blk_drew ?_ | refine blk_alloc ?_ _)); refine blk_put (cs := #[.string t124, .int .i64 t125, .int .i64 t126, .int .i64 t127, .int .i64 x123004_4, .int .i64 x123005_4, .bool x123006_4]) ?_ 4 _ rfl; (with_reducible repeat (first | refine blk_drewN ?_ _ | refine blk_drew ?_ | refine blk_alloc ?_ _)); refine blk_put (cs := #[.string t124, .int .i64 t125, .int .i64 t126, .int .i64 x123003_4, .int .i64 x123004_4, .int .i64 x123005_4, .bool x123006_4]) ?_ 3 _ rfl; (with_reducible repeat (first | refine blk_drewN ?_ _ | refine blk_drew ?_ | refine blk_alloc ?_ _)); refine blk_put (cs := #[.string t124, .int .i64 t125, .int .i64 x123002_4, .int .i64 x123003_4, .int .i64 x123004_4, .int .i64 x123005_4, .bool x123006_4]) ?_ 2 _ rfl; (with_reducible repeat (first | refine blk_drewN ?_ _ | refine blk_drew ?_ | refine blk_alloc ?_ _)); refine blk_put (cs := #[.string t124, .int .i64 x123001_4, .int .i64 x123002_4, .int .i64 x123003_4, .int .i64 x123004_4, .int .i64 x123005_4, .bool x123006_4]) ?_ 1 _ rfl; (with_reducible repeat (first | refine blk_drewN ?_ _ | refine blk_drew ?_ | refine blk_alloc ?_ _)); refine blk_put (cs := #[.string x123000_4, .int .i64 x123001_4, .int .i64 x123002_4, .int .i64 x123003_4, .int .i64 x123004_4, .int .i64 x123005_4, .bool x123006_4]) ?_ 0 _ rfl; (with_reducible repeat (first | refine blk_drewN ?_ _ | refine blk_drew ?_ | refine blk_alloc ?_ _)); exact BK122.out) Try.underlying26 rfl (by kernel_rfl)) rfl ?_
              exact ⟨by first | rfl | (simp [errW_none, errW_some] <;> rfl) | (simp [*, errW_none, errW_some] <;> rfl), (q8f57_ HB.out GE122.out GE132.out)⟩
    ·rw [if_neg c7] at H
     exact absurd H (by simp)

end Go.Proofs.Ytjdpmjpfhcdcfaa.G
