/- What functions of the translation come to, and their calls' proofs; by a program of mine over the kit's print, with contracts given by hand beside. Conditions: where a plain function tells none, nothing is said. -/
import Derived.Test.YtijploopgmbhfaaDoorG0
import Derived.Test.YtijploopgmbhfaaDoorG2
import Derived.Test.YtijploopgmbhfaaDoorGAwake14
import Derived.Test.YtijploopgmbhfaaDoorGRead
namespace Go.Proofs.YtijploopgmbhfaaDoor.G
open Go.RowKit Go.Proofs.YtijploopgmbhfaaDoorW.PrintWords Go.Proofs.YtijploopgmbhfaaDoorW.PrintLast Go.Proofs.YtijploopgmbhfaaDoorW.PrintMore
attribute [local go_sem] max2_int min2_int max_two min_two max_three min_three max_four min_four   -- for this text's walks alone
set_option linter.unusedVariables false
set_option linter.unusedSimpArgs false

/-! ### caravanlaw14_RouteReads: function 4 -/
def caravanlaw14_RouteReads.f (k : Nat) (a0 : ByteArray) : Option (Bool) := if (a0.size : Int) > 100 then ((caravanlaw14_awake.f).bind fun t128 => (some t128)) else ((route_Read.f a0).bind fun bt129 => ((caravanref13_ReadRoute.f k a0).bind fun bt132 => (if bt129.1.toList = bt132.1.toList then (if bt129.2.1 = bt132.2.1 then (if bt129.2.2 = bt132.2.2 then ((caravanlaw14_awake.f).bind fun t136 => (some t136)) else (some false)) else (some false)) else (some false))))
theorem caravanlaw14_RouteReads.mono : ∀ a0 k, LeO (caravanlaw14_RouteReads.f k a0) (caravanlaw14_RouteReads.f (k + 1) a0) := by
 intro a0 k
 unfold caravanlaw14_RouteReads.f
 repeat' first
  | (with_reducible exact caravanref13_ReadRoute.mono _ _)
  | (with_reducible exact LeO.refl _)
  | (with_reducible exact LeO.none _)
  | (with_reducible refine LeO.ite ?_ ?_)
  | (with_reducible refine LeO.bind ?_ (fun _ => ?_))
  | exact caravanref13_ReadRoute.mono _ _
  | exact LeO.none _
  | refine LeO.ite ?_ ?_
  | refine LeO.bind ?_ (fun _ => ?_)
set_option maxHeartbeats 8000000 in
set_option maxRecDepth 100000 in
theorem caravanlaw14_RouteReads.calls (k : Nat) (a0 : ByteArray) (r : Bool) (w : World) (h : caravanlaw14_RouteReads.f k a0 = some r) (hrt_ : r = true) (hWd_ : Wd w) :
 Calls Tryd.prog 4 #[.string a0] w fun e w' => e = .returned (.bool r) ∧ Below w.heap.size w w' := by
 have hu46 := Tryd.underlying46
 have HB := Aside0.mk (Below.refl w.heap.size w)
 have H : (if (a0.size : Int) > 100 then ((caravanlaw14_awake.f).bind fun t128 => (some t128)) else ((route_Read.f a0).bind fun bt129 => ((caravanref13_ReadRoute.f k a0).bind fun bt132 => (if bt129.1.toList = bt132.1.toList then (if bt129.2.1 = bt132.2.1 then (if bt129.2.2 = bt132.2.2 then ((caravanlaw14_awake.f).bind fun t136 => (some t136)) else (some false)) else (some false)) else (some false))))) = some r := h
 clear h
 by_cases c2 : (a0.size : Int) > 100
 ·rw [if_pos c2] at H
  have c2b0 : decide (100 < (a0.size : Int)) = true := decide_eq_true c2
  have c2b1 : decide (100 < a0.size) = true := decide_eq_true (by omega)
  clear c2
  replace H := Option.bind_eq_some_iff.mp H
  obtain ⟨t128, A30, H⟩ := H
  replace H : (some t128) = some r := H
  have A3 := Aside0.mk A30
  clear A30
  obtain rfl := Option.some.inj H
  go_enter Tryd.func4, Tryd.ntmps4
  go_wp2_with (first | ((with_reducible refine gate_callee (f := 11) rfl ?_); refine goesL_ (some 10) rfl rfl Tryd.func11 (by kernel_rfl) rfl #[] rfl qM_ ?_; (with_reducible refine (caravanlaw14_awake.calls  t128 _ A3.out (Wd.of hWd_ (qdb35_ HB.out))).mono ?_); rintro e w4 ⟨rfl, hb⟩; refine ⟨_, rfl, ?_⟩; have n0_ := Aside0.mk (below_step (qdb35_ HB.out) hb); clear HB; have HB := n0_; clear n0_; (try clear hb); (try clear hb2); (try clear hk); (try clear hi)))
  go_ret
  exact ⟨by first | rfl | (simp [errW_none, errW_some] <;> rfl) | (simp [*, errW_none, errW_some] <;> rfl), (qdb35_ HB.out)⟩
 ·rw [if_neg c2] at H
  have c2b0 : decide (100 < (a0.size : Int)) = false := decide_eq_false c2
  have c2b1 : decide (100 < a0.size) = false := decide_eq_false (by omega)
  clear c2
  replace H := Option.bind_eq_some_iff.mp H
  obtain ⟨⟨t129, t130, t131⟩, A50, H⟩ := H
  replace H : ((caravanref13_ReadRoute.f k a0).bind fun bt132 => (if t129.toList = bt132.1.toList then (if t130 = bt132.2.1 then (if t131 = bt132.2.2 then ((caravanlaw14_awake.f).bind fun t136 => (some t136)) else (some false)) else (some false)) else (some false))) = some r := H
  have A5 := Aside0.mk A50
  clear A50
  replace H := Option.bind_eq_some_iff.mp H
  obtain ⟨⟨t132, t133, t134⟩, A60, H⟩ := H
  replace H : (if t129.toList = t132.toList then (if t130 = t133 then (if t131 = t134 then ((caravanlaw14_awake.f).bind fun t136 => (some t136)) else (some false)) else (some false)) else (some false)) = some r := H
  have A6 := Aside0.mk A60
  clear A60
  by_cases c7 : t129.toList = t132.toList
  ·rw [if_pos c7] at H
   have c7b0 : (t129.toList == t132.toList) = true := beq_iff_eq.mpr c7
   have c7b1 : (t129.toList != t132.toList) = false := bne_eq_false_iff_eq.mpr c7
   clear c7
   by_cases c8 : t130 = t133
   ·rw [if_pos c8] at H
    have c8b0 : (t130 == t133) = true := beq_iff_eq.mpr c8
    have c8b1 : (t130 != t133) = false := bne_eq_false_iff_eq.mpr c8
    clear c8
    by_cases c9 : t131 = t134
    ·rw [if_pos c9] at H
     have c9b0 : (t131 == t134) = true := beq_iff_eq.mpr c9
     have c9b1 : (t131 != t134) = false := bne_eq_false_iff_eq.mpr c9
     clear c9
     replace H := Option.bind_eq_some_iff.mp H
     obtain ⟨t136, A100, H⟩ := H
     replace H : (some t136) = some r := H
     have A10 := Aside0.mk A100
     clear A100
     obtain rfl := Option.some.inj H
     go_enter Tryd.func4, Tryd.ntmps4
     go_wp2_with (first | ((with_reducible refine gate_callee (f := 14) rfl ?_); refine goesL_ (some 13) rfl rfl Tryd.func14 (by kernel_rfl) rfl #[.string a0] rfl qM_ ?_; (with_reducible refine (route_Read.calls a0 t129 t130 t131 _ A5.out (Wd.of hWd_ (qdb35_ HB.out))).mono ?_); rintro e w11 ⟨rfl, hb⟩; refine ⟨_, rfl, ?_⟩; have n0_ := Aside0.mk (below_step (qdb35_ HB.out) hb); clear HB; have HB := n0_; clear n0_; (try clear hb); (try clear hb2); (try clear hk); (try clear hi)) | ((with_reducible refine gate_callee (f := 15) rfl ?_); refine goesL_ (some 18) rfl rfl Tryd.func15 (by kernel_rfl) rfl #[.string a0] rfl qM_ ?_; (with_reducible refine (caravanref13_ReadRoute.calls k a0 t132 t133 t134 _ A6.out).mono ?_); rintro e w12 ⟨rfl, hb⟩; refine ⟨_, rfl, ?_⟩; have n0_ := Aside0.mk (below_step (qdb35_ HB.out) hb); clear HB; have HB := n0_; clear n0_; (try clear hb); (try clear hb2); (try clear hk); (try clear hi)) | ((with_reducible refine gate_dst (N := 6) rfl ?_); refine box_event ?hg (N := 6) ?hd (cs := #[.string (⟨#[]⟩ : ByteArray), .int .i64 0, .int .i64 0]) (t := 46) ?hr ?_; (case hd => rfl); (case hg => rfl); (case hr => first | (go_simp; done) | (go_simp; rfl)); intro gb135 hg w13 hbox hb; have n0_ := Aside0.mk (below_step (qdb35_ HB.out) hb); have n1_ := Aside0.mk (hbox); have n2_ := Aside0.mk ((by rw [hg]; exact (below_size (qdb35_ HB.out)) : w.heap.size ≤ gb135)); have n3_ := Aside0.mk ((by rw [hg]; exact (below_size (qdb35_ HB.out)) : w.heap.size ≤ gb135)); clear HB; have HB := n0_; have BK135 := n1_; have GW135 := n2_; have GE135 := n3_; clear n0_ n1_ n2_ n3_; clear hb hbox hg; have hcz14_0 : w13.cell? ⟨gb135, 0, none⟩ = some (.string (⟨#[]⟩ : ByteArray)) := (blk_cell BK135.out 0).trans rfl; have hcz14_1 : w13.cell? ⟨gb135, 1, none⟩ = some (.int .i64 0) := (blk_cell BK135.out 1).trans rfl; have hcz14_2 : w13.cell? ⟨gb135, 2, none⟩ = some (.int .i64 0) := (blk_cell BK135.out 2).trans rfl; have hfz14_0 := blk_frozen BK135.out 0; have hfz14_1 := blk_frozen BK135.out 1; have hfz14_2 := blk_frozen BK135.out 2) | (go_at_call 11; (with_reducible refine (caravanlaw14_awake.calls  t136 _ A10.out (Wd.of hWd_ (qed14_ HB.out GE135.out))).mono ?_); rintro e w15 ⟨rfl, hb⟩; have n0_ := Aside0.mk (blk_below (g := gb135) (o := .cells #[.string t132, .int .i64 t133, .int .i64 t134] 46 (0, 0)) (by (with_reducible repeat (first | refine blk_drewN ?_ _ | refine blk_drew ?_ | refine blk_alloc ?_ _)); refine blk_put (cs := #[.string t132, .int .i64 t133, .int .i64 0]) ?_ 2 _ rfl; (with_reducible repeat (first | refine blk_drewN ?_ _ | refine blk_drew ?_ | refine blk_alloc ?_ _)); refine blk_put (cs := #[.string t132, .int .i64 0, .int .i64 0]) ?_ 1 _ rfl; (with_reducible repeat (first | refine blk_drewN ?_ _ | refine blk_drew ?_ | refine blk_alloc ?_ _)); refine blk_put (cs := #[.string (⟨#[]⟩ : ByteArray), .int .i64 0, .int .i64 0]) ?_ 0 _ rfl; (with_reducible repeat (first | refine blk_drewN ?_ _ | refine blk_drew ?_ | refine blk_alloc ?_ _)); exact BK135.out) hb); have n1_ := Aside0.mk (below_step (qed14_ HB.out GE135.out) hb); clear BK135; clear HB; have BK135 := n0_; have HB := n1_; clear n0_ n1_; (try clear hb); (try clear hb2); (try clear hk); (try clear hi)))
     go_ret
     exact ⟨by first | rfl | (simp [errW_none, errW_some] <;> rfl) | (simp [*, errW_none, errW_some] <;> rfl), (qed14_ HB.out GE135.out)⟩
    ·rw [if_neg c9] at H
     have c9b0 : (t131 == t134) = false := beq_eq_false_iff_ne.mpr c9
     have c9b1 : (t131 != t134) = true := bne_iff_ne.mpr c9
     subst hrt_; exact absurd H (by simp)
   ·rw [if_neg c8] at H
    have c8b0 : (t130 == t133) = false := beq_eq_false_iff_ne.mpr c8
    have c8b1 : (t130 != t133) = true := bne_iff_ne.mpr c8
    subst hrt_; exact absurd H (by simp)
  ·rw [if_neg c7] at H
   have c7b0 : (t129.toList == t132.toList) = false := beq_eq_false_iff_ne.mpr c7
   have c7b1 : (t129.toList != t132.toList) = true := bne_iff_ne.mpr c7
   subst hrt_; exact absurd H (by simp)

/-- THE ONE PURE STATEMENT of caravanlaw14_RouteReads: yours. -/
def caravanlaw14_RouteReads.Pure : Prop := ∀ (a0 : ByteArray), a0.size ≤ 140737488351232 → ∃ k, caravanlaw14_RouteReads.f k a0 = some true
theorem caravanlaw14_RouteReads.walk (P : caravanlaw14_RouteReads.Pure) (a0 : ByteArray) (w : World) (hWd_ : Wd w) (w0 : a0.size ≤ 140737488351232) :
 Calls Tryd.prog 4 #[.string a0] w fun e w' => e = .returned (.bool true) ∧ Below w.heap.size w w' := by
 obtain ⟨k, h⟩ := P a0 w0
 refine (caravanlaw14_RouteReads.calls k a0 true w h rfl hWd_).mono ?_
 rintro e w' ⟨rfl, hd⟩
 exact ⟨rfl, hd⟩

/-! ### caravanref1_Tag: function 22 -/
mutual
def caravanref1_Tag.l0 : Nat → ByteArray → Int → Option (ByteArray)
 | 0, _, _ => none
 | k + 1, x0, x3 => if x3 < (x0.size : Int) then (if 0 ≤ x3 then (if (bt x0 x3) = 123 then (caravanref1_Tag.l1 k x0 x3 (wrap64 (x3 + 1))) else (caravanref1_Tag.l0 k x0 (wrap64 (x3 + 1)))) else (none)) else (some x0)
def caravanref1_Tag.l1 : Nat → ByteArray → Int → Int → Option (ByteArray)
 | 0, _, _, _ => none
 | k + 1, x0, x3, x4 => if x4 < (x0.size : Int) then (if 0 ≤ x4 then (if (bt x0 x4) = 125 then (if x4 = (wrap64 (x3 + 1)) then (some x0) else (if 0 ≤ (wrap64 (x3 + 1)) then (if (wrap64 (x3 + 1)) ≤ x4 then (if x4 ≤ (x0.size : Int) then (some (x0.extract ((wrap64 (x3 + 1)) : Int).toNat (x4 : Int).toNat)) else (none)) else (none)) else (none))) else (caravanref1_Tag.l1 k x0 x3 (wrap64 (x4 + 1)))) else (none)) else (some x0)
end
def caravanref1_Tag.f (k : Nat) (a0 : ByteArray) : Option (ByteArray) := caravanref1_Tag.l0 k a0 0
theorem caravanref1_Tag.mono_l : ∀ k, (∀ y0 y1, LeO (caravanref1_Tag.l0 k y0 y1) (caravanref1_Tag.l0 (k + 1) y0 y1)) ∧ (∀ y0 y1 y2, LeO (caravanref1_Tag.l1 k y0 y1 y2) (caravanref1_Tag.l1 (k + 1) y0 y1 y2))
 | 0 => ⟨fun _ _ r h => by simp [caravanref1_Tag.l0] at h, fun _ _ _ r h => by simp [caravanref1_Tag.l1] at h⟩
 | k + 1 => by
  obtain ⟨ih0, ih1⟩ := caravanref1_Tag.mono_l k
  refine ⟨?_, ?_⟩
  ·intro y0 y1
   unfold caravanref1_Tag.l0
   repeat' first
   | (with_reducible exact ih0 _ _)
   | (with_reducible exact ih1 _ _ _)
   | (with_reducible exact LeO.refl _)
   | (with_reducible exact LeO.none _)
   | (with_reducible refine LeO.ite ?_ ?_)
   | (with_reducible refine LeO.bind ?_ (fun _ => ?_))
   | exact ih0 _ _
   | exact ih1 _ _ _
   | exact LeO.none _
   | refine LeO.ite ?_ ?_
   | refine LeO.bind ?_ (fun _ => ?_)
  ·intro y0 y1 y2
   unfold caravanref1_Tag.l1
   repeat' first
   | (with_reducible exact ih0 _ _)
   | (with_reducible exact ih1 _ _ _)
   | (with_reducible exact LeO.refl _)
   | (with_reducible exact LeO.none _)
   | (with_reducible refine LeO.ite ?_ ?_)
   | (with_reducible refine LeO.bind ?_ (fun _ => ?_))
   | exact ih0 _ _
   | exact ih1 _ _ _
   | exact LeO.none _
   | refine LeO.ite ?_ ?_
   | refine LeO.bind ?_ (fun _ => ?_)
theorem caravanref1_Tag.mono : ∀ a0 k, LeO (caravanref1_Tag.f k a0) (caravanref1_Tag.f (k + 1) a0) := by
 intro a0 k
 obtain ⟨ih0, ih1⟩ := caravanref1_Tag.mono_l k
 unfold caravanref1_Tag.f
 repeat' first
  | (with_reducible exact ih0 _ _)
  | (with_reducible exact ih1 _ _ _)
  | (with_reducible exact LeO.refl _)
  | (with_reducible exact LeO.none _)
  | (with_reducible refine LeO.ite ?_ ?_)
  | (with_reducible refine LeO.bind ?_ (fun _ => ?_))
  | exact ih0 _ _
  | exact ih1 _ _ _
  | exact LeO.none _
  | refine LeO.ite ?_ ?_
  | refine LeO.bind ?_ (fun _ => ?_)
set_option maxHeartbeats 8000000 in
set_option maxRecDepth 100000 in
theorem caravanref1_Tag.calls (k : Nat) (a0 : ByteArray) (r : ByteArray) (w : World) (h : caravanref1_Tag.f k a0 = some r) :
 Calls Tryd.prog 22 #[.string a0] w fun e w' => e = .returned (.string r) ∧ Drawn0 w w' := by
 have H : (caravanref1_Tag.l0 k a0 0) = some r := h
 clear h
 have H' := Aside0.mk H
 clear H
 go_enter Tryd.func22, Tryd.ntmps22
 go_wp2
 go_loopg [3] k (fun kq v3 w' => ∃ (x3_1 : Int), v3 = .int .i64 x3_1 ∧ Aside0 (caravanref1_Tag.l0 kq a0 x3_1 = some r) ∧ Aside0 (kq ≤ k) ∧ Drawn0 w w')
 case atStart => exact ⟨(0), (by first | rfl | (simp; done) | (simp [*]; done)), H', ⟨Nat.le_refl _⟩, (by repeat (first | exact Drawn0.refl _ | apply Drawn0.step))⟩
 case round =>
  clear H'
  obtain ⟨x3_1, rfl, HA, HK1, ⟨m1, rfl⟩⟩ := hrel
  cases gk with
  | zero => exact absurd HA.out (by simp [caravanref1_Tag.l0])
  | succ k1 =>
   have H := HA.out
   clear HA
   simp only [caravanref1_Tag.l0] at H
   by_cases c2 : x3_1 < (a0.size : Int)
   ·rw [if_pos c2] at H
    have c2b0 : decide (x3_1 < (a0.size : Int)) = true := decide_eq_true c2
    clear c2
    by_cases c3 : 0 ≤ x3_1
    ·rw [if_pos c3] at H
     have c3b0 : decide (0 ≤ x3_1) = true := decide_eq_true c3
     clear c3
     by_cases c5 : (bt a0 x3_1) = 123
     ·rw [if_pos c5] at H
      have c5b0 : ((bt a0 x3_1) == 123) = true := beq_iff_eq.mpr c5
      have c5b1 : ((bt a0 x3_1) != 123) = false := bne_eq_false_iff_eq.mpr c5
      clear c5
      have H' := Aside0.mk H
      clear H
      have p4 : 0 ≤ (x3_1 : Int) := of_decide_eq_true (by first | (with_reducible assumption) | assumption)
      have q4 : x3_1 < (a0.size : Int) := of_decide_eq_true (by first | (with_reducible assumption) | assumption)
      have hx4 := bt_at a0 x3_1
      replace p4 := eq_true p4
      replace q4 := eq_true q4
      go_wp2
      go_loopg [4] k1 (fun kq v4 w' => ∃ (x4_2 : Int), v4 = .int .i64 x4_2 ∧ Aside0 (caravanref1_Tag.l1 kq a0 x3_1 x4_2 = some r) ∧ Aside0 (kq ≤ k1) ∧ Drawn0 w w')
      case atStart => exact ⟨(wrap64 (x3_1 + 1)), (by first | rfl | (simp; done) | (simp [*]; done)), H', ⟨Nat.le_refl _⟩, (by repeat (first | exact Drawn0.refl _ | apply Drawn0.step))⟩
      case round =>
       clear H'
       try clear c2
       try clear c2b0
       try clear p2
       try clear c3
       try clear c3b0
       try clear p4
       try clear q4
       try clear hx4
       try clear c5
       try clear c5b0
       try clear c5b1
       try clear p4
       try clear q4
       obtain ⟨x4_2, rfl, HA, HK2, ⟨m2, rfl⟩⟩ := hrel
       cases gk with
       | zero => exact absurd HA.out (by simp [caravanref1_Tag.l1])
       | succ k2 =>
        have H := HA.out
        clear HA
        simp only [caravanref1_Tag.l1] at H
        by_cases c6 : x4_2 < (a0.size : Int)
        ·rw [if_pos c6] at H
         have c6b0 : decide (x4_2 < (a0.size : Int)) = true := decide_eq_true c6
         clear c6
         by_cases c7 : 0 ≤ x4_2
         ·rw [if_pos c7] at H
          have c7b0 : decide (0 ≤ x4_2) = true := decide_eq_true c7
          clear c7
          by_cases c9 : (bt a0 x4_2) = 125
          ·rw [if_pos c9] at H
           have c9b0 : ((bt a0 x4_2) == 125) = true := beq_iff_eq.mpr c9
           have c9b1 : ((bt a0 x4_2) != 125) = false := bne_eq_false_iff_eq.mpr c9
           clear c9
           by_cases c10 : x4_2 = (wrap64 (x3_1 + 1))
           ·rw [if_pos c10] at H
            have c10b0 : (x4_2 == (wrap64 (x3_1 + 1))) = true := beq_iff_eq.mpr c10
            have c10b1 : (x4_2 != (wrap64 (x3_1 + 1))) = false := bne_eq_false_iff_eq.mpr c10
            clear c10
            obtain rfl := Option.some.inj H
            have p8 : 0 ≤ (x4_2 : Int) := of_decide_eq_true (by first | (with_reducible assumption) | assumption)
            have q8 : x4_2 < (a0.size : Int) := of_decide_eq_true (by first | (with_reducible assumption) | assumption)
            have hx8 := bt_at a0 x4_2
            replace p8 := eq_true p8
            replace q8 := eq_true q8
            go_wp2
            go_ret
            exact ⟨by first | rfl | (simp; done) | (simp [*]; done), (by repeat (first | exact Drawn0.refl _ | apply Drawn0.step))⟩
           ·rw [if_neg c10] at H
            have c10b0 : (x4_2 == (wrap64 (x3_1 + 1))) = false := beq_eq_false_iff_ne.mpr c10
            have c10b1 : (x4_2 != (wrap64 (x3_1 + 1))) = true := bne_iff_ne.mpr c10
            obtain ⟨ji11, hji11⟩ : ∃ j_ : Int, (wrap64 (x3_1 + 1)) = j_ := ⟨_, rfl⟩
            replace H : (if 0 ≤ (ji11) then (if (ji11) ≤ x4_2 then (if x4_2 ≤ (a0.size : Int) then (some (a0.extract ((ji11) : Int).toNat (x4_2 : Int).toNat)) else (none)) else (none)) else (none)) = some r := by first | (rw [hji11] at H; exact H) | (simp only [hji11] at H ⊢; exact H)
            (try rw [hji11] at c10b0)
            (try rw [hji11] at c10b1)
            have hji11w : (IntKind.i64.wrap (x3_1 + 1)) = ji11 := (i64_w _).trans hji11
            by_cases c12 : 0 ≤ (ji11)
            ·rw [if_pos c12] at H
             have c12b0 := eq_true c12
             have c12b1 : decide (0 ≤ (ji11)) = true := decide_eq_true c12
             clear c12
             by_cases c13 : (ji11) ≤ x4_2
             ·rw [if_pos c13] at H
              have c13b0 := eq_true c13
              have c13b1 : decide ((ji11) ≤ x4_2) = true := decide_eq_true c13
              clear c13
              by_cases c14 : x4_2 ≤ (a0.size : Int)
              ·rw [if_pos c14] at H
               have c14b0 := eq_true c14
               have c14b1 : decide (x4_2 ≤ (a0.size : Int)) = true := decide_eq_true c14
               clear c14
               obtain rfl := Option.some.inj H
               have p8 : 0 ≤ (x4_2 : Int) := of_decide_eq_true (by first | (with_reducible assumption) | assumption)
               have q8 : x4_2 < (a0.size : Int) := of_decide_eq_true (by first | (with_reducible assumption) | assumption)
               have hx8 := bt_at a0 x4_2
               replace p8 := eq_true p8
               replace q8 := eq_true q8
               go_wp2
               go_ret
               exact ⟨by first | rfl | (simp; done) | (simp only [← hji11] <;> (first | rfl | simp)) | (simp [*]; done), (by repeat (first | exact Drawn0.refl _ | apply Drawn0.step))⟩
              ·rw [if_neg c14] at H
               exact absurd H (by simp)
             ·rw [if_neg c13] at H
              exact absurd H (by simp)
            ·rw [if_neg c12] at H
             exact absurd H (by simp)
          ·rw [if_neg c9] at H
           have c9b0 : ((bt a0 x4_2) == 125) = false := beq_eq_false_iff_ne.mpr c9
           have c9b1 : ((bt a0 x4_2) != 125) = true := bne_iff_ne.mpr c9
           have H' := Aside0.mk H
           clear H
           have p8 : 0 ≤ (x4_2 : Int) := of_decide_eq_true (by first | (with_reducible assumption) | assumption)
           have q8 : x4_2 < (a0.size : Int) := of_decide_eq_true (by first | (with_reducible assumption) | assumption)
           have hx8 := bt_at a0 x4_2
           replace p8 := eq_true p8
           replace q8 := eq_true q8
           go_wp2
           go_roundg k2
           case measure => have := HK1.out; have := HK2.out; omega
           case rel => exact ⟨(wrap64 (x4_2 + 1)), (by first | rfl | (simp; done) | (simp [*]; done)), H', ⟨by have := HK1.out; have := HK2.out; omega⟩, (by repeat (first | exact Drawn0.refl _ | apply Drawn0.step))⟩
         ·rw [if_neg c7] at H
          exact absurd H (by simp)
        ·rw [if_neg c6] at H
         have c6b0 : decide (x4_2 < (a0.size : Int)) = false := decide_eq_false c6
         clear c6
         obtain rfl := Option.some.inj H
         go_wp2
         go_ret
         exact ⟨by first | rfl | (simp; done) | (simp [*]; done), (by repeat (first | exact Drawn0.refl _ | apply Drawn0.step))⟩
     ·rw [if_neg c5] at H
      have c5b0 : ((bt a0 x3_1) == 123) = false := beq_eq_false_iff_ne.mpr c5
      have c5b1 : ((bt a0 x3_1) != 123) = true := bne_iff_ne.mpr c5
      have H' := Aside0.mk H
      clear H
      have p4 : 0 ≤ (x3_1 : Int) := of_decide_eq_true (by first | (with_reducible assumption) | assumption)
      have q4 : x3_1 < (a0.size : Int) := of_decide_eq_true (by first | (with_reducible assumption) | assumption)
      have hx4 := bt_at a0 x3_1
      replace p4 := eq_true p4
      replace q4 := eq_true q4
      go_wp2
      go_roundg k1
      case measure => have := HK1.out; omega
      case rel => exact ⟨(wrap64 (x3_1 + 1)), (by first | rfl | (simp; done) | (simp [*]; done)), H', ⟨by have := HK1.out; omega⟩, (by repeat (first | exact Drawn0.refl _ | apply Drawn0.step))⟩
    ·rw [if_neg c3] at H
     exact absurd H (by simp)
   ·rw [if_neg c2] at H
    have c2b0 : decide (x3_1 < (a0.size : Int)) = false := decide_eq_false c2
    clear c2
    obtain rfl := Option.some.inj H
    go_wp2
    go_ret
    exact ⟨by first | rfl | (simp; done) | (simp [*]; done), (by repeat (first | exact Drawn0.refl _ | apply Drawn0.step))⟩

/-! ### caravanref1_Crc: function 41 -/
mutual
def caravanref1_Crc.l0 : Nat → ByteArray → Int → Int → Option (Int)
 | 0, _, _, _ => none
 | k + 1, x0, x3, x4 => if x4 < (x0.size : Int) then (if 0 ≤ x4 then (caravanref1_Crc.l1 k x0 (Go.bits .xor .i64 x3 (wrap64 ((wrap64 (bt x0 x4)) * 256))) x4 0) else (none)) else (some x3)
def caravanref1_Crc.l1 : Nat → ByteArray → Int → Int → Int → Option (Int)
 | 0, _, _, _, _ => none
 | k + 1, x0, x3, x4, x5 => if x5 < 8 then (if (wrap64 (x3 * 2)) ≥ 65536 then (caravanref1_Crc.l1 k x0 (Go.bits .and .i64 (Go.bits .xor .i64 (wrap64 (x3 * 2)) 4129) 65535) x4 (wrap64 (x5 + 1))) else (caravanref1_Crc.l1 k x0 (wrap64 (x3 * 2)) x4 (wrap64 (x5 + 1)))) else (caravanref1_Crc.l0 k x0 x3 (wrap64 (x4 + 1)))
end
def caravanref1_Crc.f (k : Nat) (a0 : ByteArray) : Option (Int) := caravanref1_Crc.l0 k a0 0 0
theorem caravanref1_Crc.mono_l : ∀ k, (∀ y0 y1 y2, LeO (caravanref1_Crc.l0 k y0 y1 y2) (caravanref1_Crc.l0 (k + 1) y0 y1 y2)) ∧ (∀ y0 y1 y2 y3, LeO (caravanref1_Crc.l1 k y0 y1 y2 y3) (caravanref1_Crc.l1 (k + 1) y0 y1 y2 y3))
 | 0 => ⟨fun _ _ _ r h => by simp [caravanref1_Crc.l0] at h, fun _ _ _ _ r h => by simp [caravanref1_Crc.l1] at h⟩
 | k + 1 => by
  obtain ⟨ih0, ih1⟩ := caravanref1_Crc.mono_l k
  refine ⟨?_, ?_⟩
  ·intro y0 y1 y2
   unfold caravanref1_Crc.l0
   repeat' first
   | (with_reducible exact ih0 _ _ _)
   | (with_reducible exact ih1 _ _ _ _)
   | (with_reducible exact LeO.refl _)
   | (with_reducible exact LeO.none _)
   | (with_reducible refine LeO.ite ?_ ?_)
   | (with_reducible refine LeO.bind ?_ (fun _ => ?_))
   | exact ih0 _ _ _
   | exact ih1 _ _ _ _
   | exact LeO.none _
   | refine LeO.ite ?_ ?_
   | refine LeO.bind ?_ (fun _ => ?_)
  ·intro y0 y1 y2 y3
   unfold caravanref1_Crc.l1
   repeat' first
   | (with_reducible exact ih0 _ _ _)
   | (with_reducible exact ih1 _ _ _ _)
   | (with_reducible exact LeO.refl _)
   | (with_reducible exact LeO.none _)
   | (with_reducible refine LeO.ite ?_ ?_)
   | (with_reducible refine LeO.bind ?_ (fun _ => ?_))
   | exact ih0 _ _ _
   | exact ih1 _ _ _ _
   | exact LeO.none _
   | refine LeO.ite ?_ ?_
   | refine LeO.bind ?_ (fun _ => ?_)
theorem caravanref1_Crc.mono : ∀ a0 k, LeO (caravanref1_Crc.f k a0) (caravanref1_Crc.f (k + 1) a0) := by
 intro a0 k
 obtain ⟨ih0, ih1⟩ := caravanref1_Crc.mono_l k
 unfold caravanref1_Crc.f
 repeat' first
  | (with_reducible exact ih0 _ _ _)
  | (with_reducible exact ih1 _ _ _ _)
  | (with_reducible exact LeO.refl _)
  | (with_reducible exact LeO.none _)
  | (with_reducible refine LeO.ite ?_ ?_)
  | (with_reducible refine LeO.bind ?_ (fun _ => ?_))
  | exact ih0 _ _ _
  | exact ih1 _ _ _ _
  | exact LeO.none _
  | refine LeO.ite ?_ ?_
  | refine LeO.bind ?_ (fun _ => ?_)
set_option maxHeartbeats 8000000 in
set_option maxRecDepth 100000 in
theorem caravanref1_Crc.calls (k : Nat) (a0 : ByteArray) (r : Int) (w : World) (h : caravanref1_Crc.f k a0 = some r) :
 Calls Tryd.prog 41 #[.string a0] w fun e w' => e = .returned (.int .i64 r) ∧ Drawn0 w w' := by
 have H : (caravanref1_Crc.l0 k a0 0 0) = some r := h
 clear h
 have H' := Aside0.mk H
 clear H
 go_enter Tryd.func41, Tryd.ntmps41
 go_wp2
 go_loopg [3, 4] k (fun kq v3 v4 w' => ∃ (x3_1 : Int) (x4_1 : Int), v3 = .int .i64 x3_1 ∧ v4 = .int .i64 x4_1 ∧ Aside0 (caravanref1_Crc.l0 kq a0 x3_1 x4_1 = some r) ∧ Aside0 (kq ≤ k) ∧ Drawn0 w w')
 case atStart => exact ⟨(0), (0), (by first | rfl | (simp; done) | (simp [*]; done)), (by first | rfl | (simp; done) | (simp [*]; done)), H', ⟨Nat.le_refl _⟩, (by repeat (first | exact Drawn0.refl _ | apply Drawn0.step))⟩
 case round =>
  clear H'
  obtain ⟨x3_1, x4_1, rfl, rfl, HA, HK1, ⟨m1, rfl⟩⟩ := hrel
  cases gk with
  | zero => exact absurd HA.out (by simp [caravanref1_Crc.l0])
  | succ k1 =>
   have H := HA.out
   clear HA
   simp only [caravanref1_Crc.l0] at H
   by_cases c2 : x4_1 < (a0.size : Int)
   ·rw [if_pos c2] at H
    have c2b0 : decide (x4_1 < (a0.size : Int)) = true := decide_eq_true c2
    clear c2
    by_cases c3 : 0 ≤ x4_1
    ·rw [if_pos c3] at H
     have c3b0 : decide (0 ≤ x4_1) = true := decide_eq_true c3
     clear c3
     have H' := Aside0.mk H
     clear H
     have p4 : 0 ≤ (x4_1 : Int) := of_decide_eq_true (by first | (with_reducible assumption) | assumption)
     have q4 : x4_1 < (a0.size : Int) := of_decide_eq_true (by first | (with_reducible assumption) | assumption)
     have hx4 := bt_at a0 x4_1
     replace p4 := eq_true p4
     replace q4 := eq_true q4
     go_wp2
     go_loopg [3, 5] k1 (fun kq v3 v5 w' => ∃ (x3_2 : Int) (x5_2 : Int), v3 = .int .i64 x3_2 ∧ v5 = .int .i64 x5_2 ∧ Aside0 (caravanref1_Crc.l1 kq a0 x3_2 x4_1 x5_2 = some r) ∧ Aside0 (kq ≤ k1) ∧ Drawn0 w w')
     case atStart => exact ⟨(Go.bits .xor .i64 x3_1 (wrap64 ((wrap64 (bt a0 x4_1)) * 256))), (0), (by first | rfl | (simp; done) | (simp [*]; done)), (by first | rfl | (simp; done) | (simp [*]; done)), H', ⟨Nat.le_refl _⟩, (by repeat (first | exact Drawn0.refl _ | apply Drawn0.step))⟩
     case round =>
      clear H'
      try clear c2
      try clear c2b0
      try clear p2
      try clear c3
      try clear c3b0
      try clear c4
      try clear p4
      try clear q4
      try clear hx4
      try clear p4
      try clear q4
      obtain ⟨x3_2, x5_2, rfl, rfl, HA, HK2, ⟨m2, rfl⟩⟩ := hrel
      cases gk with
      | zero => exact absurd HA.out (by simp [caravanref1_Crc.l1])
      | succ k2 =>
       have H := HA.out
       clear HA
       simp only [caravanref1_Crc.l1] at H
       by_cases c5 : x5_2 < 8
       ·rw [if_pos c5] at H
        have c5b0 : decide (x5_2 < 8) = true := decide_eq_true c5
        clear c5
        by_cases c6 : (wrap64 (x3_2 * 2)) ≥ 65536
        ·rw [if_pos c6] at H
         have c6b0 : decide (65536 ≤ (wrap64 (x3_2 * 2))) = true := decide_eq_true c6
         clear c6
         have H' := Aside0.mk H
         clear H
         go_wp2
         go_roundg k2
         case measure => have := HK1.out; have := HK2.out; omega
         case rel => exact ⟨(Go.bits .and .i64 (Go.bits .xor .i64 (wrap64 (x3_2 * 2)) 4129) 65535), (wrap64 (x5_2 + 1)), (by first | rfl | (simp; done) | (simp [*]; done)), (by first | rfl | (simp; done) | (simp [*]; done)), H', ⟨by have := HK1.out; have := HK2.out; omega⟩, (by repeat (first | exact Drawn0.refl _ | apply Drawn0.step))⟩
        ·rw [if_neg c6] at H
         have c6b0 : decide (65536 ≤ (wrap64 (x3_2 * 2))) = false := decide_eq_false c6
         clear c6
         have H' := Aside0.mk H
         clear H
         go_wp2
         go_roundg k2
         case measure => have := HK1.out; have := HK2.out; omega
         case rel => exact ⟨(wrap64 (x3_2 * 2)), (wrap64 (x5_2 + 1)), (by first | rfl | (simp; done) | (simp [*]; done)), (by first | rfl | (simp; done) | (simp [*]; done)), H', ⟨by have := HK1.out; have := HK2.out; omega⟩, (by repeat (first | exact Drawn0.refl _ | apply Drawn0.step))⟩
       ·rw [if_neg c5] at H
        have c5b0 : decide (x5_2 < 8) = false := decide_eq_false c5
        clear c5
        have H' := Aside0.mk H
        clear H
        go_wp2
        go_roundg k2
        case measure => have := HK1.out; have := HK2.out; omega
        case rel => exact ⟨(x3_2), (wrap64 (x4_1 + 1)), (by first | rfl | (simp; done) | (simp [*]; done)), (by first | rfl | (simp; done) | (simp [*]; done)), H', ⟨by have := HK1.out; have := HK2.out; omega⟩, (by repeat (first | exact Drawn0.refl _ | apply Drawn0.step))⟩
    ·rw [if_neg c3] at H
     exact absurd H (by simp)
   ·rw [if_neg c2] at H
    have c2b0 : decide (x4_1 < (a0.size : Int)) = false := decide_eq_false c2
    clear c2
    obtain rfl := Option.some.inj H
    go_wp2
    go_ret
    exact ⟨by first | rfl | (simp; done) | (simp [*]; done), (by repeat (first | exact Drawn0.refl _ | apply Drawn0.step))⟩

/-! ### caravanref1_Slot: function 18 -/
def caravanref1_Slot.f (k : Nat) (a0 : ByteArray) : Option (Int) := (caravanref1_Tag.f k a0).bind fun t137 => ((caravanref1_Crc.f k t137).bind fun t138 => (some (Int.tmod t138 16384)))
theorem caravanref1_Slot.mono : ∀ a0 k, LeO (caravanref1_Slot.f k a0) (caravanref1_Slot.f (k + 1) a0) := by
 intro a0 k
 unfold caravanref1_Slot.f
 repeat' first
  | (with_reducible exact caravanref1_Crc.mono _ _)
  | (with_reducible exact caravanref1_Tag.mono _ _)
  | (with_reducible exact LeO.refl _)
  | (with_reducible exact LeO.none _)
  | (with_reducible refine LeO.ite ?_ ?_)
  | (with_reducible refine LeO.bind ?_ (fun _ => ?_))
  | exact caravanref1_Crc.mono _ _
  | exact caravanref1_Tag.mono _ _
  | exact LeO.none _
  | refine LeO.ite ?_ ?_
  | refine LeO.bind ?_ (fun _ => ?_)
set_option maxHeartbeats 8000000 in
set_option maxRecDepth 100000 in
theorem caravanref1_Slot.calls (k : Nat) (a0 : ByteArray) (r : Int) (w : World) (h : caravanref1_Slot.f k a0 = some r) :
 Calls Tryd.prog 18 #[.string a0] w fun e w' => e = .returned (.int .i64 r) ∧ Drawn0 w w' := by
 have H : ((caravanref1_Tag.f k a0).bind fun t137 => ((caravanref1_Crc.f k t137).bind fun t138 => (some (Int.tmod t138 16384)))) = some r := h
 clear h
 replace H := Option.bind_eq_some_iff.mp H
 obtain ⟨t137, A20, H⟩ := H
 replace H : ((caravanref1_Crc.f k t137).bind fun t138 => (some (Int.tmod t138 16384))) = some r := H
 have A2 := Aside0.mk A20
 clear A20
 replace H := Option.bind_eq_some_iff.mp H
 obtain ⟨t138, A30, H⟩ := H
 replace H : (some (Int.tmod t138 16384)) = some r := H
 have A3 := Aside0.mk A30
 clear A30
 obtain rfl := Option.some.inj H
 go_enter Tryd.func18, Tryd.ntmps18
 go_wp2_with (first | ((with_reducible refine gate_callee (f := 22) rfl ?_); refine goesL_ (some 4) rfl rfl Tryd.func22 (by kernel_rfl) rfl #[.string a0] rfl qM_ ?_; (with_reducible refine (caravanref1_Tag.calls k a0 t137 _ A2.out).mono ?_); rintro e w' ⟨rfl, ⟨nd, rfl⟩⟩; refine ⟨_, rfl, ?_⟩) | ((with_reducible refine gate_callee (f := 41) rfl ?_); refine goesL_ (some 5) rfl rfl Tryd.func41 (by kernel_rfl) rfl #[.string t137] rfl qM_ ?_; (with_reducible refine (caravanref1_Crc.calls k t137 t138 _ A3.out).mono ?_); rintro e w' ⟨rfl, ⟨nd, rfl⟩⟩; refine ⟨_, rfl, ?_⟩))
 go_ret
 exact ⟨by first | rfl | (simp; done) | (simp [*]; done), (by repeat (first | exact Drawn0.refl _ | apply Drawn0.step))⟩

end Go.Proofs.YtijploopgmbhfaaDoor.G
