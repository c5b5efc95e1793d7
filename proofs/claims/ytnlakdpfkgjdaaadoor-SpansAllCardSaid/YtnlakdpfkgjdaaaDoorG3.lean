/- What functions of the translation come to, and their calls' proofs; by a program of mine over the kit's print, with contracts given by hand beside. Conditions: where a plain function tells none, nothing is said. -/
import Derived.Test.YtnlakdpfkgjdaaaDoorG0
namespace Go.Proofs.YtnlakdpfkgjdaaaDoor.G
open Go.RowKit Go.Proofs.YtnlakdpfkgjdaaaDoorW.PrintWords Go.Proofs.YtnlakdpfkgjdaaaDoorW.PrintLast Go.Proofs.YtnlakdpfkgjdaaaDoorW.PrintMore
attribute [local go_sem] max2_int min2_int max_two min_two max_three min_three max_four min_four   -- for this text's walks alone
set_option linter.unusedVariables false
set_option linter.unusedSimpArgs false

/-! ### caravanref1_Mark: function 55 -/
def caravanref1_Mark.l0 : Nat → List Int → Int → Int → Option (List Int)
 | 0, _, _, _ => none
 | k + 1, x0, x1, x5 => if x5 > 0 then (if 0 ≤ (wrap64 (x5 - 1)) then (if (wrap64 (x5 - 1)) < (x0.length : Int) then (if (rd x0 (wrap64 (x5 - 1))) ≥ x1 then (caravanref1_Mark.l0 k x0 x1 (wrap64 (x5 - 1))) else (if x1 < 0 then (some x0) else (if x1 > 16384 then (some x0) else (if x5 < (x0.length : Int) then (if 0 ≤ x5 then (if (rd x0 x5) = x1 then (some x0) else ((some (([] : List Int) : List Int)).bind fun y131 => (if x5 ≤ (x0.length : Int) then ((some (x0.take (x5 : Int).toNat : List Int)).bind fun y134 => (if y131.length + y134.length < 17592186044416 then ((some (y131 ++ y134 : List Int)).bind fun y138 => (if y138.length < 17592186044416 then ((some (y138 ++ [x1] : List Int)).bind fun y141 => ((some (x0.drop (x5 : Int).toNat : List Int)).bind fun y144 => (if y141.length + y144.length < 17592186044416 then (some (y141 ++ y144)) else (none)))) else (none))) else (none))) else (none)))) else (none)) else ((some (([] : List Int) : List Int)).bind fun y151 => (if 0 ≤ x5 then (if x5 ≤ (x0.length : Int) then ((some (x0.take (x5 : Int).toNat : List Int)).bind fun y154 => (if y151.length + y154.length < 17592186044416 then ((some (y151 ++ y154 : List Int)).bind fun y158 => (if y158.length < 17592186044416 then ((some (y158 ++ [x1] : List Int)).bind fun y161 => ((some (x0.drop (x5 : Int).toNat : List Int)).bind fun y164 => (if y161.length + y164.length < 17592186044416 then (some (y161 ++ y164)) else (none)))) else (none))) else (none))) else (none)) else (none))))))) else (none)) else (none)) else (if x1 < 0 then (some x0) else (if x1 > 16384 then (some x0) else (if x5 < (x0.length : Int) then (if 0 ≤ x5 then (if (rd x0 x5) = x1 then (some x0) else ((some (([] : List Int) : List Int)).bind fun y172 => (if x5 ≤ (x0.length : Int) then ((some (x0.take (x5 : Int).toNat : List Int)).bind fun y175 => (if y172.length + y175.length < 17592186044416 then ((some (y172 ++ y175 : List Int)).bind fun y179 => (if y179.length < 17592186044416 then ((some (y179 ++ [x1] : List Int)).bind fun y182 => ((some (x0.drop (x5 : Int).toNat : List Int)).bind fun y185 => (if y182.length + y185.length < 17592186044416 then (some (y182 ++ y185)) else (none)))) else (none))) else (none))) else (none)))) else (none)) else ((some (([] : List Int) : List Int)).bind fun y192 => (if 0 ≤ x5 then (if x5 ≤ (x0.length : Int) then ((some (x0.take (x5 : Int).toNat : List Int)).bind fun y195 => (if y192.length + y195.length < 17592186044416 then ((some (y192 ++ y195 : List Int)).bind fun y199 => (if y199.length < 17592186044416 then ((some (y199 ++ [x1] : List Int)).bind fun y202 => ((some (x0.drop (x5 : Int).toNat : List Int)).bind fun y205 => (if y202.length + y205.length < 17592186044416 then (some (y202 ++ y205)) else (none)))) else (none))) else (none))) else (none)) else (none))))))
def caravanref1_Mark.f (k : Nat) (l0 : List Int) (a1 : Int) : Option (List Int) := caravanref1_Mark.l0 k l0 a1 (l0.length : Int)
theorem caravanref1_Mark.mono_l : ∀ k, (∀ y0 y1 y2, LeO (caravanref1_Mark.l0 k y0 y1 y2) (caravanref1_Mark.l0 (k + 1) y0 y1 y2))
 | 0 => fun _ _ _ r h => by simp [caravanref1_Mark.l0] at h
 | k + 1 => by
  have ih0 := caravanref1_Mark.mono_l k
  ·intro y0 y1 y2
   unfold caravanref1_Mark.l0
   repeat' first
   | (with_reducible exact ih0 _ _ _)
   | (with_reducible exact LeO.refl _)
   | (with_reducible exact LeO.none _)
   | (with_reducible refine LeO.ite ?_ ?_)
   | (with_reducible refine LeO.bind ?_ (fun _ => ?_))
   | exact ih0 _ _ _
   | exact LeO.none _
   | refine LeO.ite ?_ ?_
   | refine LeO.bind ?_ (fun _ => ?_)
theorem caravanref1_Mark.mono : ∀ a0 a1 k, LeO (caravanref1_Mark.f k a0 a1) (caravanref1_Mark.f (k + 1) a0 a1) := by
 intro a0 a1 k
 have ih0 := caravanref1_Mark.mono_l k
 unfold caravanref1_Mark.f
 repeat' first
  | (with_reducible exact ih0 _ _ _)
  | (with_reducible exact LeO.refl _)
  | (with_reducible exact LeO.none _)
  | (with_reducible refine LeO.ite ?_ ?_)
  | (with_reducible refine LeO.bind ?_ (fun _ => ?_))
  | exact ih0 _ _ _
  | exact LeO.none _
  | refine LeO.ite ?_ ?_
  | refine LeO.bind ?_ (fun _ => ?_)
set_option maxHeartbeats 8000000 in
set_option maxRecDepth 100000 in
theorem caravanref1_Mark.calls (k : Nat) (P0_ : Nat → Prop) (u9000_ : Value) (l0 : List Int) (a1 : Int) (r : List Int) (w0 w : World) (hB : Below w0.heap.size w0 w) (ho0 : Kd.R (Kd.int .i64) 3 w w0.heap.size P0_ u9000_ l0) (h : caravanref1_Mark.f k l0 a1 = some r) :
 Calls Tryd.prog 55 #[u9000_, .int .i64 a1] w fun e w' => ∃ v0_ : Value, e = .returned (v0_) ∧ Kd.R (Kd.int .i64) 3 w' w0.heap.size (fun k_ => (P0_ k_ ∨ w.heap.size ≤ k_)) v0_ r ∧ Below w0.heap.size w0 w' ∧ Kept w w' (fun k_ => P0_ k_) := by
 have HO0 := Aside0.mk (show Kd.R (Kd.int .i64) 3 w w0.heap.size (fun k_ => (P0_ k_ ∨ w.heap.size ≤ k_)) u9000_ l0 from Kd.R_mono ho0 (fun k_ hk => (.inl hk)))
 have HK := Aside0.mk (Kept.refl w (fun k_ => P0_ k_))
 have HW0 := Aside0.mk hB.size
 have HB := Aside0.mk hB
 clear hB
 have H : (caravanref1_Mark.l0 k l0 a1 (l0.length : Int)) = some r := h
 clear h
 have H' := Aside0.mk H
 clear H
 obtain ⟨Ao3, co3, eo3⟩ := Kd.R_slice HO0.out
 subst eo3
 go_enter Tryd.func55, Tryd.ntmps55
 go_wp2
 go_loopg [5] k (fun kq v5 w' => ∃ (x5_1 : Int), v5 = .int .i64 x5_1 ∧ Aside0 (caravanref1_Mark.l0 kq l0 a1 x5_1 = some r) ∧ Aside0 (kq ≤ k) ∧ Aside0 (Kd.R (Kd.int .i64) 3 w' w0.heap.size (fun k_ => (P0_ k_ ∨ w.heap.size ≤ k_)) (.slice Ao3 l0.length co3) l0) ∧ Aside0 (Kept w w' (fun k_ => P0_ k_)) ∧ Aside0 (Below w0.heap.size w0 w'))
 case atStart => exact ⟨((l0.length : Int)), (by first | rfl | (simp; done) | (simp [*]; done)), H', ⟨Nat.le_refl _⟩, ⟨by (with_reducible repeat (first | apply Kd.R_alloc | apply Kd.R_drewN | apply Kd.R_drew)); exact HO0.out⟩, ⟨(q8d66_ HK.out)⟩, ⟨(qdb35_ HB.out)⟩⟩
 case round =>
  clear H'
  try clear p2
  obtain ⟨x5_1, rfl, HA, HK1, HO_0, HK, HB⟩ := hrel
  cases gk with
  | zero => exact absurd HA.out (by simp [caravanref1_Mark.l0])
  | succ k1 =>
   have H := HA.out
   clear HA
   simp only [caravanref1_Mark.l0] at H
   by_cases c4 : x5_1 > 0
   ·rw [if_pos c4] at H
    have c4b0 : decide (0 < x5_1) = true := decide_eq_true c4
    clear c4
    obtain ⟨ji5, hji5⟩ : ∃ j_ : Int, (wrap64 (x5_1 - 1)) = j_ := ⟨_, rfl⟩
    replace H : (if 0 ≤ (ji5) then (if (ji5) < (l0.length : Int) then (if (rd l0 (ji5)) ≥ a1 then (caravanref1_Mark.l0 k1 l0 a1 ji5) else (if a1 < 0 then (some l0) else (if a1 > 16384 then (some l0) else (if x5_1 < (l0.length : Int) then (if 0 ≤ x5_1 then (if (rd l0 x5_1) = a1 then (some l0) else ((some (([] : List Int) : List Int)).bind fun y131 => (if x5_1 ≤ (l0.length : Int) then ((some (l0.take (x5_1 : Int).toNat : List Int)).bind fun y134 => (if y131.length + y134.length < 17592186044416 then ((some (y131 ++ y134 : List Int)).bind fun y138 => (if y138.length < 17592186044416 then ((some (y138 ++ [a1] : List Int)).bind fun y141 => ((some (l0.drop (x5_1 : Int).toNat : List Int)).bind fun y144 => (if y141.length + y144.length < 17592186044416 then (some (y141 ++ y144)) else (none)))) else (none))) else (none))) else (none)))) else (none)) else ((some (([] : List Int) : List Int)).bind fun y151 => (if 0 ≤ x5_1 then (if x5_1 ≤ (l0.length : Int) then ((some (l0.take (x5_1 : Int).toNat : List Int)).bind fun y154 => (if y151.length + y154.length < 17592186044416 then ((some (y151 ++ y154 : List Int)).bind fun y158 => (if y158.length < 17592186044416 then ((some (y158 ++ [a1] : List Int)).bind fun y161 => ((some (l0.drop (x5_1 : Int).toNat : List Int)).bind fun y164 => (if y161.length + y164.length < 17592186044416 then (some (y161 ++ y164)) else (none)))) else (none))) else (none))) else (none)) else (none))))))) else (none)) else (none)) = some r := by first | (rw [hji5] at H; exact H) | (simp only [hji5] at H ⊢; exact H)
    have hji5w : (IntKind.i64.wrap (x5_1 - 1)) = ji5 := (i64_w _).trans hji5
    by_cases c6 : 0 ≤ (ji5)
    ·rw [if_pos c6] at H
     have c6b0 : decide (0 ≤ (ji5)) = true := decide_eq_true c6
     clear c6
     by_cases c7 : (ji5) < (l0.length : Int)
     ·rw [if_pos c7] at H
      have c7b0 : decide ((ji5) < (l0.length : Int)) = true := decide_eq_true c7
      clear c7
      by_cases c8 : (rd l0 (ji5)) ≥ a1
      ·rw [if_pos c8] at H
       have c8b0 : decide (a1 ≤ (rd l0 (ji5))) = true := decide_eq_true c8
       clear c8
       have H' := Aside0.mk H
       clear H
       have p129 : 0 ≤ ((ji5) : Int) := of_decide_eq_true (by first | (with_reducible assumption) | assumption)
       have q129 : (ji5) < (l0.length : Int) := of_decide_eq_true (by first | (with_reducible assumption) | assumption)
       obtain ⟨ad129, e129, hx129_0⟩ := Kd.at_int (Kd.R_reads' HO_0.out).2.2 (ji5) p129 q129
       cases e129
       replace p129 := eq_true p129
       replace q129 := eq_true q129
       go_wp2
       go_roundg k1
       case measure => have := HK1.out; omega
       case rel => exact ⟨(ji5), (by first | rfl | (simp; done) | (simp only [← hji5] <;> (first | rfl | simp)) | (simp [*]; done)), H', ⟨by have := HK1.out; omega⟩, ⟨by (with_reducible repeat (first | apply Kd.R_alloc | apply Kd.R_drewN | apply Kd.R_drew)); exact HO_0.out⟩, ⟨(q8d66_ HK.out)⟩, ⟨(qdb35_ HB.out)⟩⟩
      ·rw [if_neg c8] at H
       have c8b0 : decide (a1 ≤ (rd l0 (ji5))) = false := decide_eq_false c8
       clear c8
       by_cases c9 : a1 < 0
       ·rw [if_pos c9] at H
        have c9b0 : decide (a1 < 0) = true := decide_eq_true c9
        clear c9
        obtain rfl := Option.some.inj H
        have p129 : 0 ≤ ((ji5) : Int) := of_decide_eq_true (by first | (with_reducible assumption) | assumption)
        have q129 : (ji5) < (l0.length : Int) := of_decide_eq_true (by first | (with_reducible assumption) | assumption)
        obtain ⟨ad129, e129, hx129_0⟩ := Kd.at_int (Kd.R_reads' HO_0.out).2.2 (ji5) p129 q129
        cases e129
        replace p129 := eq_true p129
        replace q129 := eq_true q129
        go_wp2
        go_ret
        exact ⟨_, by first | rfl | (simp [errW_none, errW_some] <;> rfl) | (simp only [← hji5]; first | rfl | (simp [errW_none, errW_some] <;> rfl)) | (simp [*, errW_none, errW_some] <;> rfl), by (with_reducible repeat (first | apply Kd.R_alloc | apply Kd.R_drewN | apply Kd.R_drew)); exact HO_0.out, (qdb35_ HB.out), (q8d66_ HK.out)⟩
       ·rw [if_neg c9] at H
        have c9b0 : decide (a1 < 0) = false := decide_eq_false c9
        clear c9
        by_cases c10 : a1 > 16384
        ·rw [if_pos c10] at H
         have c10b0 : decide (16384 < a1) = true := decide_eq_true c10
         clear c10
         obtain rfl := Option.some.inj H
         have p129 : 0 ≤ ((ji5) : Int) := of_decide_eq_true (by first | (with_reducible assumption) | assumption)
         have q129 : (ji5) < (l0.length : Int) := of_decide_eq_true (by first | (with_reducible assumption) | assumption)
         obtain ⟨ad129, e129, hx129_0⟩ := Kd.at_int (Kd.R_reads' HO_0.out).2.2 (ji5) p129 q129
         cases e129
         replace p129 := eq_true p129
         replace q129 := eq_true q129
         go_wp2
         go_ret
         exact ⟨_, by first | rfl | (simp [errW_none, errW_some] <;> rfl) | (simp only [← hji5]; first | rfl | (simp [errW_none, errW_some] <;> rfl)) | (simp [*, errW_none, errW_some] <;> rfl), by (with_reducible repeat (first | apply Kd.R_alloc | apply Kd.R_drewN | apply Kd.R_drew)); exact HO_0.out, (qdb35_ HB.out), (q8d66_ HK.out)⟩
        ·rw [if_neg c10] at H
         have c10b0 : decide (16384 < a1) = false := decide_eq_false c10
         clear c10
         by_cases c11 : x5_1 < (l0.length : Int)
         ·rw [if_pos c11] at H
          have c11b0 : decide (x5_1 < (l0.length : Int)) = true := decide_eq_true c11
          clear c11
          by_cases c12 : 0 ≤ x5_1
          ·rw [if_pos c12] at H
           have c12b0 : decide (0 ≤ x5_1) = true := decide_eq_true c12
           clear c12
           by_cases c13 : (rd l0 x5_1) = a1
           ·rw [if_pos c13] at H
            have c13b0 : ((rd l0 x5_1) == a1) = true := beq_iff_eq.mpr c13
            have c13b1 : ((rd l0 x5_1) != a1) = false := bne_eq_false_iff_eq.mpr c13
            clear c13
            obtain rfl := Option.some.inj H
            have p129 : 0 ≤ ((ji5) : Int) := of_decide_eq_true (by first | (with_reducible assumption) | assumption)
            have q129 : (ji5) < (l0.length : Int) := of_decide_eq_true (by first | (with_reducible assumption) | assumption)
            obtain ⟨ad129, e129, hx129_0⟩ := Kd.at_int (Kd.R_reads' HO_0.out).2.2 (ji5) p129 q129
            cases e129
            replace p129 := eq_true p129
            replace q129 := eq_true q129
            have p130 : 0 ≤ (x5_1 : Int) := of_decide_eq_true (by first | (with_reducible assumption) | assumption)
            have q130 : x5_1 < (l0.length : Int) := of_decide_eq_true (by first | (with_reducible assumption) | assumption)
            obtain ⟨ad130, e130, hx130_0⟩ := Kd.at_int (Kd.R_reads' HO_0.out).2.2 x5_1 p130 q130
            obtain rfl : ad129 = ad130 := (by injection e130)
            replace p130 := eq_true p130
            replace q130 := eq_true q130
            go_wp2
            go_ret
            exact ⟨_, by first | rfl | (simp [errW_none, errW_some] <;> rfl) | (simp only [← hji5]; first | rfl | (simp [errW_none, errW_some] <;> rfl)) | (simp [*, errW_none, errW_some] <;> rfl), by (with_reducible repeat (first | apply Kd.R_alloc | apply Kd.R_drewN | apply Kd.R_drew)); exact HO_0.out, (qdb35_ HB.out), (q8d66_ HK.out)⟩
           ·rw [if_neg c13] at H
            have c13b0 : ((rd l0 x5_1) == a1) = false := beq_eq_false_iff_ne.mpr c13
            have c13b1 : ((rd l0 x5_1) != a1) = true := bne_iff_ne.mpr c13
            obtain ⟨y131, hy131⟩ : ∃ y_ : List Int, y_ = (([] : List Int)) := ⟨_, rfl⟩
            replace H : (if x5_1 ≤ (l0.length : Int) then ((some (l0.take (x5_1 : Int).toNat : List Int)).bind fun y134 => (if y131.length + y134.length < 17592186044416 then ((some (y131 ++ y134 : List Int)).bind fun y138 => (if y138.length < 17592186044416 then ((some (y138 ++ [a1] : List Int)).bind fun y141 => ((some (l0.drop (x5_1 : Int).toNat : List Int)).bind fun y144 => (if y141.length + y144.length < 17592186044416 then (some (y141 ++ y144)) else (none)))) else (none))) else (none))) else (none)) = some r := by first | (rw [hy131]; with_reducible exact H) | (have H2_ := (Option.bind_some _ _).symm.trans H; rw [hy131]; with_reducible exact H2_) | (have H2_ := (Option.bind_some _ _).symm.trans H; with_reducible exact H2_) | with_reducible exact H | (rw [hy131]; exact H) | exact H
            have Ny131 := Aside0.mk hy131
            clear hy131
            have c14b0 := eq_true (of_decide_eq_true (by first | (with_reducible assumption) | assumption) : 0 ≤ x5_1)
            by_cases c15 : x5_1 ≤ (l0.length : Int)
            ·rw [if_pos c15] at H
             have c15b0 := eq_true c15
             have c15b1 : decide (x5_1 ≤ (l0.length : Int)) = true := decide_eq_true c15
             clear c15
             obtain ⟨y134, hy134⟩ : ∃ y_ : List Int, y_ = (l0.take (x5_1 : Int).toNat) := ⟨_, rfl⟩
             replace H : (if y131.length + y134.length < 17592186044416 then ((some (y131 ++ y134 : List Int)).bind fun y138 => (if y138.length < 17592186044416 then ((some (y138 ++ [a1] : List Int)).bind fun y141 => ((some (l0.drop (x5_1 : Int).toNat : List Int)).bind fun y144 => (if y141.length + y144.length < 17592186044416 then (some (y141 ++ y144)) else (none)))) else (none))) else (none)) = some r := by first | (rw [hy134]; with_reducible exact H) | (have H2_ := (Option.bind_some _ _).symm.trans H; rw [hy134]; with_reducible exact H2_) | (have H2_ := (Option.bind_some _ _).symm.trans H; with_reducible exact H2_) | with_reducible exact H | (rw [hy134]; exact H) | exact H
             have Ny134 := Aside0.mk hy134
             clear hy134
             by_cases c16 : y131.length + y134.length < 17592186044416
             ·rw [if_pos c16] at H
              have LMc16 := Aside0.mk c16
              clear c16
              obtain ⟨y138, hy138⟩ : ∃ y_ : List Int, y_ = (y131 ++ y134) := ⟨_, rfl⟩
              replace H : (if y138.length < 17592186044416 then ((some (y138 ++ [a1] : List Int)).bind fun y141 => ((some (l0.drop (x5_1 : Int).toNat : List Int)).bind fun y144 => (if y141.length + y144.length < 17592186044416 then (some (y141 ++ y144)) else (none)))) else (none)) = some r := by first | (rw [hy138]; with_reducible exact H) | (have H2_ := (Option.bind_some _ _).symm.trans H; rw [hy138]; with_reducible exact H2_) | (have H2_ := (Option.bind_some _ _).symm.trans H; with_reducible exact H2_) | with_reducible exact H | (rw [hy138]; exact H) | exact H
              have Ny138 := Aside0.mk hy138
              clear hy138
              by_cases c17 : y138.length < 17592186044416
              ·rw [if_pos c17] at H
               have LMc17 := Aside0.mk c17
               clear c17
               obtain ⟨y141, hy141⟩ : ∃ y_ : List Int, y_ = (y138 ++ [a1]) := ⟨_, rfl⟩
               replace H : ((some (l0.drop (x5_1 : Int).toNat : List Int)).bind fun y144 => (if y141.length + y144.length < 17592186044416 then (some (y141 ++ y144)) else (none))) = some r := by first | (rw [hy141]; with_reducible exact H) | (have H2_ := (Option.bind_some _ _).symm.trans H; rw [hy141]; with_reducible exact H2_) | (have H2_ := (Option.bind_some _ _).symm.trans H; with_reducible exact H2_) | with_reducible exact H | (rw [hy141]; exact H) | exact H
               have Ny141 := Aside0.mk hy141
               clear hy141
               have c18b0 := eq_true (of_decide_eq_true (by first | (with_reducible assumption) | assumption) : 0 ≤ x5_1)
               have c19b0 := eq_true (of_decide_eq_true (by first | (with_reducible assumption) | assumption) : x5_1 ≤ (l0.length : Int))
               obtain ⟨y144, hy144⟩ : ∃ y_ : List Int, y_ = (l0.drop (x5_1 : Int).toNat) := ⟨_, rfl⟩
               replace H : (if y141.length + y144.length < 17592186044416 then (some (y141 ++ y144)) else (none)) = some r := by first | (rw [hy144]; with_reducible exact H) | (have H2_ := (Option.bind_some _ _).symm.trans H; rw [hy144]; with_reducible exact H2_) | (have H2_ := (Option.bind_some _ _).symm.trans H; with_reducible exact H2_) | with_reducible exact H | (rw [hy144]; exact H) | exact H
               have Ny144 := Aside0.mk hy144
               clear hy144
               by_cases c20 : y141.length + y144.length < 17592186044416
               ·rw [if_pos c20] at H
                have LMc20 := Aside0.mk c20
                clear c20
                obtain ⟨y148, hy148⟩ : ∃ y_ : List Int, y_ = (y141 ++ y144) := ⟨_, rfl⟩
                replace H : (some y148) = some r := by first | (rw [hy148]; with_reducible exact H) | (have H2_ := (Option.bind_some _ _).symm.trans H; rw [hy148]; with_reducible exact H2_) | (have H2_ := (Option.bind_some _ _).symm.trans H; with_reducible exact H2_) | with_reducible exact H | (rw [hy148]; exact H) | exact H
                have Ny148 := Aside0.mk hy148
                clear hy148
                obtain rfl := Option.some.inj H
                have p129 : 0 ≤ ((ji5) : Int) := of_decide_eq_true (by first | (with_reducible assumption) | assumption)
                have q129 : (ji5) < (l0.length : Int) := of_decide_eq_true (by first | (with_reducible assumption) | assumption)
                obtain ⟨ad129, e129, hx129_0⟩ := Kd.at_int (Kd.R_reads' HO_0.out).2.2 (ji5) p129 q129
                cases e129
                replace p129 := eq_true p129
                replace q129 := eq_true q129
                have p130 : 0 ≤ (x5_1 : Int) := of_decide_eq_true (by first | (with_reducible assumption) | assumption)
                have q130 : x5_1 < (l0.length : Int) := of_decide_eq_true (by first | (with_reducible assumption) | assumption)
                obtain ⟨ad130, e130, hx130_0⟩ := Kd.at_int (Kd.R_reads' HO_0.out).2.2 x5_1 p130 q130
                obtain rfl : ad129 = ad130 := (by injection e130)
                replace p130 := eq_true p130
                replace q130 := eq_true q130
                go_wp2_with (first | ((with_reducible refine gate_dst (N := 43) rfl ?_); (try (refine gate_guard (by rfl) ?_; dsimp only)); refine Kd.R_lit (Kd.int .i64) _ 3 ?hg (N := 43) ?hd (xs := ([] : List Int)) (inner := []) (ok := fun _ => True) (okp := fun _ => True) ?hr ?hp (fun _ hk => hk) trivial (Below.refl _ _) (Nat.le_refl _) (by simp) ?_; (case hd => rfl); (case hg => rfl); (case hr => first | (go_simp; done) | (go_simp; rfl)); (case hp => exact (Reps.none _ _)); intro v132 w21 ho22 hb hg_ hnew_; clear hg_ hnew_; (first | rw [← Ny131.out] at ho22 | (simp only [Int.reduceToNat] at ho22; rw [← Ny131.out] at ho22)); have n0_ := Aside0.mk (Kd.R_elder' (q8524_ HO_0.out) (Kd.R_base ho22) hb); have n1_ := Aside0.mk (Kd.R_lower (Kd.R_new' (Kd.R_newM (M := fun k_ => (P0_ k_ ∨ w.heap.size ≤ k_)) ho22 (by first | exact HK.out.1 | exact (show Kept w _ (fun k_ => P0_ k_) from (q8d66_ HK.out)).1) (fun k_ h_ => .inr h_)) (Kd.R_lt (q8524_ HO_0.out))) (below_size (qdb35_ HB.out))); have n2_ := Aside0.mk (Kept.below (S := (fun k_ => P0_ k_)) (q8d66_ HK.out) hb); have n3_ := Aside0.mk (below_step (qdb35_ HB.out) hb); clear HO_0; clear HK; clear HB; have HO_0 := n0_; have HO133 := n1_; have HK := n2_; have HB := n3_; clear n0_ n1_ n2_ n3_; clear hb ho22; have q23 : (x5_1 : Int) ≤ ((l0.length : Int) : Int) := of_decide_eq_true (by first | (with_reducible assumption) | assumption); obtain ⟨i023, hi023, _, hsz23, _⟩ := info_parts info3; have hroom23 : l0.length ≤ co3 := (Kd.R_reads' HO_0.out).2.1; have hC23 : Kd.C (Kd.int .i64) _ (some ad129) l0.length l0 := (Kd.R_reads' HO_0.out).2.2; have hcut23 := cut_to (P := Tryd.prog) 61 3 .i64 Tryd.underlying61 hi023 (some ad129) l0.length co3 x5_1 (of_decide_eq_true (by first | (with_reducible assumption) | assumption)) q23 hroom23; have hr23 := Kd.C_take (m := (x5_1 : Int).toNat) hC23 (by omega); have hy23 : y134.length = (x5_1 : Int).toNat := (by rw [Ny134.out, List.length_take]; omega); rw [← Ny134.out] at hr23; rw [← hy23] at hcut23; have HR137 := Aside0.mk hr23; have HC137 := Aside0.mk (show y134.length ≤ co3 from by omega); clear hr23 hC23 hroom23 hi023 hsz23; have KY23 := Aside0.mk hy23; clear hy23; have KL23 := Aside0.mk (show (x5_1 : Int).toNat ≤ l0.length from by omega); replace q23 := eq_true q23) | ((with_reducible refine gate_builtin (b := .append) (xs := #[.tmp 43, .tmp 46]) rfl ?_); (try (refine gate_guard (by rfl) ?_; dsimp only)); at_builtin; refine Kd.R_append_rows (Kd.int .i64) (w0 := w0) w0.heap.size rfl (.tmp 43) (.tmp 46) 61 3 (.int .i64 0) 8 rfl Tryd.underlying61 info3 rfl (by decide) (by omega) v132 y131 y134 _ _ _ (fun k_ => (P0_ k_ ∨ w.heap.size ≤ k_) ∧ some k_ ≠ (.slice (some ad129) l0.length co3 : Value).ownBlock) (fun _ => False) rfl rfl ?aO ?aR (fun _ _ h => h) (fun _ h => h.elim) ?aF ?aB ?aS ?aL ?_; (case aR => repeat (first | exact (q3f7a_ HR137.out) | (with_reducible refine Kd.C_alloc ?_ _) | (with_reducible refine Kd.C_drewN ?_ _) | (with_reducible refine Kd.C_drew ?_))); (case aB => exact (qdb35_ HB.out)); (case aF => exact (fun k_ hk => ⟨(.inr (Nat.le_trans (by first | exact HK.out.1 | exact (show Kept w _ (fun k_ => P0_ k_) from (q8d66_ HK.out)).1) hk)), Kd.fresh' (Kd.R_lt (q8524_ HO_0.out)) k_ hk⟩)); (case aO => exact (by (with_reducible repeat (first | apply Kd.R_alloc | apply Kd.R_drewN | apply Kd.R_drew)); exact Kd.R_mono HO133.out (fun _ hk => ⟨hk.1.1, hk.2⟩))); (case aS => exact (below_size (qdb35_ HB.out))); (case aL => have := LMc16.out; omega); intro v139 w24 ho hb hg hat; rw [← Ny138.out] at ho; have n0_ := Aside0.mk (Kd.R_after (ok := (fun k_ => (P0_ k_ ∨ w.heap.size ≤ k_))) (q8524_ HO_0.out) hg hat); have n1_ := Aside0.mk (hb); have n2_ := Aside0.mk (Kept.of_grown (S := (fun k_ => P0_ k_)) hg (q8d66_ HK.out) (fun k_ e_ => (HO133.out.1 k_ e_).1.1)); have n3_ := Aside0.mk ((show Kd.C (Kd.int .i64) w24 (some ad129) y134.length y134 from by rw [Ny134.out]; exact Kd.C_take (m := (x5_1 : Int).toNat) ((Kd.R_reads' (Kd.R_after (ok := (fun k_ => (P0_ k_ ∨ w.heap.size ≤ k_))) (q8524_ HO_0.out) hg hat)).2.2) KL23.out)); have n4_ := Aside0.mk (ho); clear HO_0; clear HB; clear HK; clear HR137; clear HO133; have HO_0 := n0_; have HB := n1_; have HK := n2_; have HR137 := n3_; have HO140 := n4_; clear n0_ n1_ n2_ n3_ n4_; clear ho hb hg hat) | ((with_reducible refine gate_builtin (b := .append) (xs := #[.tmp 48, .tmp 50]) rfl ?_); (try (refine gate_guard (by rfl) ?_; dsimp only)); at_builtin; refine Kd.R_append (Kd.int .i64) (w0 := w0) w0.heap.size rfl (.tmp 48) (.tmp 50) 61 3 (.int .i64 0) 8 rfl Tryd.underlying61 info3 rfl (by decide) (by omega) v139 y138 a1 [.int .i64 a1] (fun k_ => (P0_ k_ ∨ w.heap.size ≤ k_) ∧ some k_ ≠ (.slice (some ad129) l0.length co3 : Value).ownBlock) (fun _ => False) rfl rfl ?aP (fun _ hk => hk.elim) ?aF ?aO ?aB ?aS ?aL ?_; (case aP => exact rfl); (case aB => exact (qdb35_ HB.out)); (case aF => exact (fun k_ hk => ⟨(.inr (Nat.le_trans (by first | exact HK.out.1 | exact (show Kept w _ (fun k_ => P0_ k_) from (q8d66_ HK.out)).1) hk)), Kd.fresh' (Kd.R_lt (q8524_ HO_0.out)) k_ hk⟩)); (case aO => exact (q8524_ HO140.out)); (case aS => exact (below_size (qdb35_ HB.out))); (case aL => have := LMc17.out; omega); intro v142 w25 ho hb hg hat; rw [← Ny141.out] at ho; have n0_ := Aside0.mk (Kd.R_after (ok := (fun k_ => (P0_ k_ ∨ w.heap.size ≤ k_))) (q8524_ HO_0.out) hg hat); have n1_ := Aside0.mk (hb); have n2_ := Aside0.mk (Kept.of_grown (S := (fun k_ => P0_ k_)) hg (q8d66_ HK.out) (fun k_ e_ => (HO140.out.1 k_ e_).1)); have n3_ := Aside0.mk ((show Kd.C (Kd.int .i64) w25 (some ad129) y134.length y134 from by rw [Ny134.out]; exact Kd.C_take (m := (x5_1 : Int).toNat) ((Kd.R_reads' (Kd.R_after (ok := (fun k_ => (P0_ k_ ∨ w.heap.size ≤ k_))) (q8524_ HO_0.out) hg hat)).2.2) KL23.out)); have n4_ := Aside0.mk (ho); clear HO_0; clear HB; clear HK; clear HR137; clear HO140; have HO_0 := n0_; have HB := n1_; have HK := n2_; have HR137 := n3_; have HO143 := n4_; clear n0_ n1_ n2_ n3_ n4_; clear ho hb hg hat; have q26 : (x5_1 : Int) ≤ ((l0.length : Int) : Int) := of_decide_eq_true (by first | (with_reducible assumption) | assumption); obtain ⟨i026, hi026, _, hsz26, _⟩ := info_parts info3; have hroom26 : l0.length ≤ co3 := (Kd.R_reads' HO_0.out).2.1; have hC26 : Kd.C (Kd.int .i64) _ (some ad129) l0.length l0 := (Kd.R_reads' HO_0.out).2.2; have q026 : (0 : Int) ≤ (x5_1 : Int) := of_decide_eq_true (by first | (with_reducible assumption) | assumption); have hcut26 := cut_from (P := Tryd.prog) 61 3 .i64 Tryd.underlying61 hi026 1 hsz26 (some ad129) l0.length co3 x5_1 q026 q26; have hr26 := Kd.C_drop (m := (x5_1 : Int).toNat) (c := co3) hC26 (by omega) hroom26; obtain ⟨A26, hA26⟩ : ∃ A1, A1 = (if co3 = (x5_1 : Int).toNat then (some ad129) else ((some ad129) : Option Addr).map (·.add ((x5_1 : Int).toNat * 1))) := ⟨_, rfl⟩; obtain ⟨c26, hc26⟩ : ∃ c1, c1 = co3 - (x5_1 : Int).toNat := ⟨_, rfl⟩; have hy26 : y144.length = l0.length - (x5_1 : Int).toNat := (by rw [Ny144.out, List.length_drop] <;> omega); rw [show (l0).drop (x5_1 : Int).toNat = y144 from Ny144.out.symm] at hr26; replace hr26 : Kd.C (Kd.int .i64) _ A26 y144.length y144 := (by rw [hA26]; exact hr26); rw [← hy26, ← hA26, ← hc26] at hcut26; have HR147 := Aside0.mk hr26; have HC147 := Aside0.mk (show y144.length ≤ c26 from by rw [hy26, hc26]; exact Nat.sub_le_sub_right hroom26 _); clear hr26 hC26 hroom26 hi026 hsz26 hc26; have KY26 := Aside0.mk hy26; have KA26 := Aside0.mk hA26; clear hy26 hA26; have KL26 := Aside0.mk (show (x5_1 : Int).toNat ≤ l0.length from by omega); replace q26 := eq_true q26) | ((with_reducible refine gate_builtin (b := .append) (xs := #[.tmp 52, .tmp 55]) rfl ?_); (try (refine gate_guard (by rfl) ?_; dsimp only)); at_builtin; refine Kd.R_append_rows (Kd.int .i64) (w0 := w0) w0.heap.size rfl (.tmp 52) (.tmp 55) 61 3 (.int .i64 0) 8 rfl Tryd.underlying61 info3 rfl (by decide) (by omega) v142 y141 y144 _ _ _ (fun k_ => (P0_ k_ ∨ w.heap.size ≤ k_) ∧ some k_ ≠ (.slice (some ad129) l0.length co3 : Value).ownBlock) (fun _ => False) rfl rfl ?aO ?aR (fun _ _ h => h) (fun _ h => h.elim) ?aF ?aB ?aS ?aL ?_; (case aR => repeat (first | exact (q3f7a_ HR147.out) | (with_reducible refine Kd.C_alloc ?_ _) | (with_reducible refine Kd.C_drewN ?_ _) | (with_reducible refine Kd.C_drew ?_))); (case aB => exact (qdb35_ HB.out)); (case aF => exact (fun k_ hk => ⟨(.inr (Nat.le_trans (by first | exact HK.out.1 | exact (show Kept w _ (fun k_ => P0_ k_) from (q8d66_ HK.out)).1) hk)), Kd.fresh' (Kd.R_lt (q8524_ HO_0.out)) k_ hk⟩)); (case aO => exact (q8524_ HO143.out)); (case aS => exact (below_size (qdb35_ HB.out))); (case aL => have := LMc20.out; omega); intro v149 w27 ho hb hg hat; rw [← Ny148.out] at ho; have n0_ := Aside0.mk (Kd.R_after (ok := (fun k_ => (P0_ k_ ∨ w.heap.size ≤ k_))) (q8524_ HO_0.out) hg hat); have n1_ := Aside0.mk (hb); have n2_ := Aside0.mk (Kept.of_grown (S := (fun k_ => P0_ k_)) hg (q8d66_ HK.out) (fun k_ e_ => (HO143.out.1 k_ e_).1)); have n3_ := Aside0.mk ((show Kd.C (Kd.int .i64) w27 (some ad129) y134.length y134 from by rw [Ny134.out]; exact Kd.C_take (m := (x5_1 : Int).toNat) ((Kd.R_reads' (Kd.R_after (ok := (fun k_ => (P0_ k_ ∨ w.heap.size ≤ k_))) (q8524_ HO_0.out) hg hat)).2.2) KL23.out)); have n4_ := Aside0.mk ((show Kd.C (Kd.int .i64) w27 A26 y144.length y144 from by rw [Ny144.out, KA26.out]; exact Kd.C_drop (m := (x5_1 : Int).toNat) (c := co3) ((Kd.R_reads' (Kd.R_after (ok := (fun k_ => (P0_ k_ ∨ w.heap.size ≤ k_))) (q8524_ HO_0.out) hg hat)).2.2) KL26.out ((Kd.R_reads' (Kd.R_after (ok := (fun k_ => (P0_ k_ ∨ w.heap.size ≤ k_))) (q8524_ HO_0.out) hg hat)).2.1))); have n5_ := Aside0.mk (ho); clear HO_0; clear HB; clear HK; clear HR137; clear HR147; clear HO143; have HO_0 := n0_; have HB := n1_; have HK := n2_; have HR137 := n3_; have HR147 := n4_; have HO150 := n5_; clear n0_ n1_ n2_ n3_ n4_ n5_; clear ho hb hg hat))
                go_ret
                exact ⟨_, by first | rfl | (simp [errW_none, errW_some] <;> rfl) | (simp only [← hji5]; first | rfl | (simp [errW_none, errW_some] <;> rfl)) | (simp [*, errW_none, errW_some] <;> rfl), by (with_reducible repeat (first | apply Kd.R_alloc | apply Kd.R_drewN | apply Kd.R_drew)); exact Kd.R_mono HO150.out (fun _ hk => hk.1), (qdb35_ HB.out), (q8d66_ HK.out)⟩
               ·rw [if_neg c20] at H
                exact absurd H (by simp)
              ·rw [if_neg c17] at H
               exact absurd H (by simp)
             ·rw [if_neg c16] at H
              exact absurd H (by simp)
            ·rw [if_neg c15] at H
             exact absurd H (by simp)
          ·rw [if_neg c12] at H
           exact absurd H (by simp)
         ·rw [if_neg c11] at H
          have c11b0 : decide (x5_1 < (l0.length : Int)) = false := decide_eq_false c11
          clear c11
          obtain ⟨y151, hy151⟩ : ∃ y_ : List Int, y_ = (([] : List Int)) := ⟨_, rfl⟩
          replace H : (if 0 ≤ x5_1 then (if x5_1 ≤ (l0.length : Int) then ((some (l0.take (x5_1 : Int).toNat : List Int)).bind fun y154 => (if y151.length + y154.length < 17592186044416 then ((some (y151 ++ y154 : List Int)).bind fun y158 => (if y158.length < 17592186044416 then ((some (y158 ++ [a1] : List Int)).bind fun y161 => ((some (l0.drop (x5_1 : Int).toNat : List Int)).bind fun y164 => (if y161.length + y164.length < 17592186044416 then (some (y161 ++ y164)) else (none)))) else (none))) else (none))) else (none)) else (none)) = some r := by first | (rw [hy151]; with_reducible exact H) | (have H2_ := (Option.bind_some _ _).symm.trans H; rw [hy151]; with_reducible exact H2_) | (have H2_ := (Option.bind_some _ _).symm.trans H; with_reducible exact H2_) | with_reducible exact H | (rw [hy151]; exact H) | exact H
          have Ny151 := Aside0.mk hy151
          clear hy151
          by_cases c28 : 0 ≤ x5_1
          ·rw [if_pos c28] at H
           have c28b0 := eq_true c28
           have c28b1 : decide (0 ≤ x5_1) = true := decide_eq_true c28
           clear c28
           by_cases c29 : x5_1 ≤ (l0.length : Int)
           ·rw [if_pos c29] at H
            have c29b0 := eq_true c29
            have c29b1 : decide (x5_1 ≤ (l0.length : Int)) = true := decide_eq_true c29
            clear c29
            obtain ⟨y154, hy154⟩ : ∃ y_ : List Int, y_ = (l0.take (x5_1 : Int).toNat) := ⟨_, rfl⟩
            replace H : (if y151.length + y154.length < 17592186044416 then ((some (y151 ++ y154 : List Int)).bind fun y158 => (if y158.length < 17592186044416 then ((some (y158 ++ [a1] : List Int)).bind fun y161 => ((some (l0.drop (x5_1 : Int).toNat : List Int)).bind fun y164 => (if y161.length + y164.length < 17592186044416 then (some (y161 ++ y164)) else (none)))) else (none))) else (none)) = some r := by first | (rw [hy154]; with_reducible exact H) | (have H2_ := (Option.bind_some _ _).symm.trans H; rw [hy154]; with_reducible exact H2_) | (have H2_ := (Option.bind_some _ _).symm.trans H; with_reducible exact H2_) | with_reducible exact H | (rw [hy154]; exact H) | exact H
            have Ny154 := Aside0.mk hy154
            clear hy154
            by_cases c30 : y151.length + y154.length < 17592186044416
            ·rw [if_pos c30] at H
             have LMc30 := Aside0.mk c30
             clear c30
             obtain ⟨y158, hy158⟩ : ∃ y_ : List Int, y_ = (y151 ++ y154) := ⟨_, rfl⟩
             replace H : (if y158.length < 17592186044416 then ((some (y158 ++ [a1] : List Int)).bind fun y161 => ((some (l0.drop (x5_1 : Int).toNat : List Int)).bind fun y164 => (if y161.length + y164.length < 17592186044416 then (some (y161 ++ y164)) else (none)))) else (none)) = some r := by first | (rw [hy158]; with_reducible exact H) | (have H2_ := (Option.bind_some _ _).symm.trans H; rw [hy158]; with_reducible exact H2_) | (have H2_ := (Option.bind_some _ _).symm.trans H; with_reducible exact H2_) | with_reducible exact H | (rw [hy158]; exact H) | exact H
             have Ny158 := Aside0.mk hy158
             clear hy158
             by_cases c31 : y158.length < 17592186044416
             ·rw [if_pos c31] at H
              have LMc31 := Aside0.mk c31
              clear c31
              obtain ⟨y161, hy161⟩ : ∃ y_ : List Int, y_ = (y158 ++ [a1]) := ⟨_, rfl⟩
              replace H : ((some (l0.drop (x5_1 : Int).toNat : List Int)).bind fun y164 => (if y161.length + y164.length < 17592186044416 then (some (y161 ++ y164)) else (none))) = some r := by first | (rw [hy161]; with_reducible exact H) | (have H2_ := (Option.bind_some _ _).symm.trans H; rw [hy161]; with_reducible exact H2_) | (have H2_ := (Option.bind_some _ _).symm.trans H; with_reducible exact H2_) | with_reducible exact H | (rw [hy161]; exact H) | exact H
              have Ny161 := Aside0.mk hy161
              clear hy161
              have c32b0 := eq_true (of_decide_eq_true (by first | (with_reducible assumption) | assumption) : 0 ≤ x5_1)
              have c33b0 := eq_true (of_decide_eq_true (by first | (with_reducible assumption) | assumption) : x5_1 ≤ (l0.length : Int))
              obtain ⟨y164, hy164⟩ : ∃ y_ : List Int, y_ = (l0.drop (x5_1 : Int).toNat) := ⟨_, rfl⟩
              replace H : (if y161.length + y164.length < 17592186044416 then (some (y161 ++ y164)) else (none)) = some r := by first | (rw [hy164]; with_reducible exact H) | (have H2_ := (Option.bind_some _ _).symm.trans H; rw [hy164]; with_reducible exact H2_) | (have H2_ := (Option.bind_some _ _).symm.trans H; with_reducible exact H2_) | with_reducible exact H | (rw [hy164]; exact H) | exact H
              have Ny164 := Aside0.mk hy164
              clear hy164
              by_cases c34 : y161.length + y164.length < 17592186044416
              ·rw [if_pos c34] at H
               have LMc34 := Aside0.mk c34
               clear c34
               obtain ⟨y168, hy168⟩ : ∃ y_ : List Int, y_ = (y161 ++ y164) := ⟨_, rfl⟩
               replace H : (some y168) = some r := by first | (rw [hy168]; with_reducible exact H) | (have H2_ := (Option.bind_some _ _).symm.trans H; rw [hy168]; with_reducible exact H2_) | (have H2_ := (Option.bind_some _ _).symm.trans H; with_reducible exact H2_) | with_reducible exact H | (rw [hy168]; exact H) | exact H
               have Ny168 := Aside0.mk hy168
               clear hy168
               obtain rfl := Option.some.inj H
               have p129 : 0 ≤ ((ji5) : Int) := of_decide_eq_true (by first | (with_reducible assumption) | assumption)
               have q129 : (ji5) < (l0.length : Int) := of_decide_eq_true (by first | (with_reducible assumption) | assumption)
               obtain ⟨ad129, e129, hx129_0⟩ := Kd.at_int (Kd.R_reads' HO_0.out).2.2 (ji5) p129 q129
               cases e129
               replace p129 := eq_true p129
               replace q129 := eq_true q129
               go_wp2_with (first | ((with_reducible refine gate_dst (N := 43) rfl ?_); (try (refine gate_guard (by rfl) ?_; dsimp only)); refine Kd.R_lit (Kd.int .i64) _ 3 ?hg (N := 43) ?hd (xs := ([] : List Int)) (inner := []) (ok := fun _ => True) (okp := fun _ => True) ?hr ?hp (fun _ hk => hk) trivial (Below.refl _ _) (Nat.le_refl _) (by simp) ?_; (case hd => rfl); (case hg => rfl); (case hr => first | (go_simp; done) | (go_simp; rfl)); (case hp => exact (Reps.none _ _)); intro v152 w35 ho36 hb hg_ hnew_; clear hg_ hnew_; (first | rw [← Ny151.out] at ho36 | (simp only [Int.reduceToNat] at ho36; rw [← Ny151.out] at ho36)); have n0_ := Aside0.mk (Kd.R_elder' (q8524_ HO_0.out) (Kd.R_base ho36) hb); have n1_ := Aside0.mk (Kd.R_lower (Kd.R_new' (Kd.R_newM (M := fun k_ => (P0_ k_ ∨ w.heap.size ≤ k_)) ho36 (by first | exact HK.out.1 | exact (show Kept w _ (fun k_ => P0_ k_) from (q8d66_ HK.out)).1) (fun k_ h_ => .inr h_)) (Kd.R_lt (q8524_ HO_0.out))) (below_size (qdb35_ HB.out))); have n2_ := Aside0.mk (Kept.below (S := (fun k_ => P0_ k_)) (q8d66_ HK.out) hb); have n3_ := Aside0.mk (below_step (qdb35_ HB.out) hb); clear HO_0; clear HK; clear HB; have HO_0 := n0_; have HO153 := n1_; have HK := n2_; have HB := n3_; clear n0_ n1_ n2_ n3_; clear hb ho36; have q37 : (x5_1 : Int) ≤ ((l0.length : Int) : Int) := of_decide_eq_true (by first | (with_reducible assumption) | assumption); obtain ⟨i037, hi037, _, hsz37, _⟩ := info_parts info3; have hroom37 : l0.length ≤ co3 := (Kd.R_reads' HO_0.out).2.1; have hC37 : Kd.C (Kd.int .i64) _ (some ad129) l0.length l0 := (Kd.R_reads' HO_0.out).2.2; have hcut37 := cut_to (P := Tryd.prog) 61 3 .i64 Tryd.underlying61 hi037 (some ad129) l0.length co3 x5_1 (of_decide_eq_true (by first | (with_reducible assumption) | assumption)) q37 hroom37; have hr37 := Kd.C_take (m := (x5_1 : Int).toNat) hC37 (by omega); have hy37 : y154.length = (x5_1 : Int).toNat := (by rw [Ny154.out, List.length_take]; omega); rw [← Ny154.out] at hr37; rw [← hy37] at hcut37; have HR157 := Aside0.mk hr37; have HC157 := Aside0.mk (show y154.length ≤ co3 from by omega); clear hr37 hC37 hroom37 hi037 hsz37; have KY37 := Aside0.mk hy37; clear hy37; have KL37 := Aside0.mk (show (x5_1 : Int).toNat ≤ l0.length from by omega); replace q37 := eq_true q37) | ((with_reducible refine gate_builtin (b := .append) (xs := #[.tmp 43, .tmp 46]) rfl ?_); (try (refine gate_guard (by rfl) ?_; dsimp only)); at_builtin; refine Kd.R_append_rows (Kd.int .i64) (w0 := w0) w0.heap.size rfl (.tmp 43) (.tmp 46) 61 3 (.int .i64 0) 8 rfl Tryd.underlying61 info3 rfl (by decide) (by omega) v152 y151 y154 _ _ _ (fun k_ => (P0_ k_ ∨ w.heap.size ≤ k_) ∧ some k_ ≠ (.slice (some ad129) l0.length co3 : Value).ownBlock) (fun _ => False) rfl rfl ?aO ?aR (fun _ _ h => h) (fun _ h => h.elim) ?aF ?aB ?aS ?aL ?_; (case aR => repeat (first | exact (q3f7a_ HR157.out) | (with_reducible refine Kd.C_alloc ?_ _) | (with_reducible refine Kd.C_drewN ?_ _) | (with_reducible refine Kd.C_drew ?_))); (case aB => exact (qdb35_ HB.out)); (case aF => exact (fun k_ hk => ⟨(.inr (Nat.le_trans (by first | exact HK.out.1 | exact (show Kept w _ (fun k_ => P0_ k_) from (q8d66_ HK.out)).1) hk)), Kd.fresh' (Kd.R_lt (q8524_ HO_0.out)) k_ hk⟩)); (case aO => exact (by (with_reducible repeat (first | apply Kd.R_alloc | apply Kd.R_drewN | apply Kd.R_drew)); exact Kd.R_mono HO153.out (fun _ hk => ⟨hk.1.1, hk.2⟩))); (case aS => exact (below_size (qdb35_ HB.out))); (case aL => have := LMc30.out; omega); intro v159 w38 ho hb hg hat; rw [← Ny158.out] at ho; have n0_ := Aside0.mk (Kd.R_after (ok := (fun k_ => (P0_ k_ ∨ w.heap.size ≤ k_))) (q8524_ HO_0.out) hg hat); have n1_ := Aside0.mk (hb); have n2_ := Aside0.mk (Kept.of_grown (S := (fun k_ => P0_ k_)) hg (q8d66_ HK.out) (fun k_ e_ => (HO153.out.1 k_ e_).1.1)); have n3_ := Aside0.mk ((show Kd.C (Kd.int .i64) w38 (some ad129) y154.length y154 from by rw [Ny154.out]; exact Kd.C_take (m := (x5_1 : Int).toNat) ((Kd.R_reads' (Kd.R_after (ok := (fun k_ => (P0_ k_ ∨ w.heap.size ≤ k_))) (q8524_ HO_0.out) hg hat)).2.2) KL37.out)); have n4_ := Aside0.mk (ho); clear HO_0; clear HB; clear HK; clear HR157; clear HO153; have HO_0 := n0_; have HB := n1_; have HK := n2_; have HR157 := n3_; have HO160 := n4_; clear n0_ n1_ n2_ n3_ n4_; clear ho hb hg hat) | ((with_reducible refine gate_builtin (b := .append) (xs := #[.tmp 48, .tmp 50]) rfl ?_); (try (refine gate_guard (by rfl) ?_; dsimp only)); at_builtin; refine Kd.R_append (Kd.int .i64) (w0 := w0) w0.heap.size rfl (.tmp 48) (.tmp 50) 61 3 (.int .i64 0) 8 rfl Tryd.underlying61 info3 rfl (by decide) (by omega) v159 y158 a1 [.int .i64 a1] (fun k_ => (P0_ k_ ∨ w.heap.size ≤ k_) ∧ some k_ ≠ (.slice (some ad129) l0.length co3 : Value).ownBlock) (fun _ => False) rfl rfl ?aP (fun _ hk => hk.elim) ?aF ?aO ?aB ?aS ?aL ?_; (case aP => exact rfl); (case aB => exact (qdb35_ HB.out)); (case aF => exact (fun k_ hk => ⟨(.inr (Nat.le_trans (by first | exact HK.out.1 | exact (show Kept w _ (fun k_ => P0_ k_) from (q8d66_ HK.out)).1) hk)), Kd.fresh' (Kd.R_lt (q8524_ HO_0.out)) k_ hk⟩)); (case aO => exact (q8524_ HO160.out)); (case aS => exact (below_size (qdb35_ HB.out))); (case aL => have := LMc31.out; omega); intro v162 w39 ho hb hg hat; rw [← Ny161.out] at ho; have n0_ := Aside0.mk (Kd.R_after (ok := (fun k_ => (P0_ k_ ∨ w.heap.size ≤ k_))) (q8524_ HO_0.out) hg hat); have n1_ := Aside0.mk (hb); have n2_ := Aside0.mk (Kept.of_grown (S := (fun k_ => P0_ k_)) hg (q8d66_ HK.out) (fun k_ e_ => (HO160.out.1 k_ e_).1)); have n3_ := Aside0.mk ((show Kd.C (Kd.int .i64) w39 (some ad129) y154.length y154 from by rw [Ny154.out]; exact Kd.C_take (m := (x5_1 : Int).toNat) ((Kd.R_reads' (Kd.R_after (ok := (fun k_ => (P0_ k_ ∨ w.heap.size ≤ k_))) (q8524_ HO_0.out) hg hat)).2.2) KL37.out)); have n4_ := Aside0.mk (ho); clear HO_0; clear HB; clear HK; clear HR157; clear HO160; have HO_0 := n0_; have HB := n1_; have HK := n2_; have HR157 := n3_; have HO163 := n4_; clear n0_ n1_ n2_ n3_ n4_; clear ho hb hg hat; have q40 : (x5_1 : Int) ≤ ((l0.length : Int) : Int) := of_decide_eq_true (by first | (with_reducible assumption) | assumption); obtain ⟨i040, hi040, _, hsz40, _⟩ := info_parts info3; have hroom40 : l0.length ≤ co3 := (Kd.R_reads' HO_0.out).2.1; have hC40 : Kd.C (Kd.int .i64) _ (some ad129) l0.length l0 := (Kd.R_reads' HO_0.out).2.2; have q040 : (0 : Int) ≤ (x5_1 : Int) := of_decide_eq_true (by first | (with_reducible assumption) | assumption); have hcut40 := cut_from (P := Tryd.prog) 61 3 .i64 Tryd.underlying61 hi040 1 hsz40 (some ad129) l0.length co3 x5_1 q040 q40; have hr40 := Kd.C_drop (m := (x5_1 : Int).toNat) (c := co3) hC40 (by omega) hroom40; obtain ⟨A40, hA40⟩ : ∃ A1, A1 = (if co3 = (x5_1 : Int).toNat then (some ad129) else ((some ad129) : Option Addr).map (·.add ((x5_1 : Int).toNat * 1))) := ⟨_, rfl⟩; obtain ⟨c40, hc40⟩ : ∃ c1, c1 = co3 - (x5_1 : Int).toNat := ⟨_, rfl⟩; have hy40 : y164.length = l0.length - (x5_1 : Int).toNat := (by rw [Ny164.out, List.length_drop] <;> omega); rw [show (l0).drop (x5_1 : Int).toNat = y164 from Ny164.out.symm] at hr40; replace hr40 : Kd.C (Kd.int .i64) _ A40 y164.length y164 := (by rw [hA40]; exact hr40); rw [← hy40, ← hA40, ← hc40] at hcut40; have HR167 := Aside0.mk hr40; have HC167 := Aside0.mk (show y164.length ≤ c40 from by rw [hy40, hc40]; exact Nat.sub_le_sub_right hroom40 _); clear hr40 hC40 hroom40 hi040 hsz40 hc40; have KY40 := Aside0.mk hy40; have KA40 := Aside0.mk hA40; clear hy40 hA40; have KL40 := Aside0.mk (show (x5_1 : Int).toNat ≤ l0.length from by omega); replace q40 := eq_true q40) | ((with_reducible refine gate_builtin (b := .append) (xs := #[.tmp 52, .tmp 55]) rfl ?_); (try (refine gate_guard (by rfl) ?_; dsimp only)); at_builtin; refine Kd.R_append_rows (Kd.int .i64) (w0 := w0) w0.heap.size rfl (.tmp 52) (.tmp 55) 61 3 (.int .i64 0) 8 rfl Tryd.underlying61 info3 rfl (by decide) (by omega) v162 y161 y164 _ _ _ (fun k_ => (P0_ k_ ∨ w.heap.size ≤ k_) ∧ some k_ ≠ (.slice (some ad129) l0.length co3 : Value).ownBlock) (fun _ => False) rfl rfl ?aO ?aR (fun _ _ h => h) (fun _ h => h.elim) ?aF ?aB ?aS ?aL ?_; (case aR => repeat (first | exact (q3f7a_ HR167.out) | (with_reducible refine Kd.C_alloc ?_ _) | (with_reducible refine Kd.C_drewN ?_ _) | (with_reducible refine Kd.C_drew ?_))); (case aB => exact (qdb35_ HB.out)); (case aF => exact (fun k_ hk => ⟨(.inr (Nat.le_trans (by first | exact HK.out.1 | exact (show Kept w _ (fun k_ => P0_ k_) from (q8d66_ HK.out)).1) hk)), Kd.fresh' (Kd.R_lt (q8524_ HO_0.out)) k_ hk⟩)); (case aO => exact (q8524_ HO163.out)); (case aS => exact (below_size (qdb35_ HB.out))); (case aL => have := LMc34.out; omega); intro v169 w41 ho hb hg hat; rw [← Ny168.out] at ho; have n0_ := Aside0.mk (Kd.R_after (ok := (fun k_ => (P0_ k_ ∨ w.heap.size ≤ k_))) (q8524_ HO_0.out) hg hat); have n1_ := Aside0.mk (hb); have n2_ := Aside0.mk (Kept.of_grown (S := (fun k_ => P0_ k_)) hg (q8d66_ HK.out) (fun k_ e_ => (HO163.out.1 k_ e_).1)); have n3_ := Aside0.mk ((show Kd.C (Kd.int .i64) w41 (some ad129) y154.length y154 from by rw [Ny154.out]; exact Kd.C_take (m := (x5_1 : Int).toNat) ((Kd.R_reads' (Kd.R_after (ok := (fun k_ => (P0_ k_ ∨ w.heap.size ≤ k_))) (q8524_ HO_0.out) hg hat)).2.2) KL37.out)); have n4_ := Aside0.mk ((show Kd.C (Kd.int .i64) w41 A40 y164.length y164 from by rw [Ny164.out, KA40.out]; exact Kd.C_drop (m := (x5_1 : Int).toNat) (c := co3) ((Kd.R_reads' (Kd.R_after (ok := (fun k_ => (P0_ k_ ∨ w.heap.size ≤ k_))) (q8524_ HO_0.out) hg hat)).2.2) KL40.out ((Kd.R_reads' (Kd.R_after (ok := (fun k_ => (P0_ k_ ∨ w.heap.size ≤ k_))) (q8524_ HO_0.out) hg hat)).2.1))); have n5_ := Aside0.mk (ho); clear HO_0; clear HB; clear HK; clear HR157; clear HR167; clear HO163; have HO_0 := n0_; have HB := n1_; have HK := n2_; have HR157 := n3_; have HR167 := n4_; have HO170 := n5_; clear n0_ n1_ n2_ n3_ n4_ n5_; clear ho hb hg hat))
               go_ret
               exact ⟨_, by first | rfl | (simp [errW_none, errW_some] <;> rfl) | (simp only [← hji5]; first | rfl | (simp [errW_none, errW_some] <;> rfl)) | (simp [*, errW_none, errW_some] <;> rfl), by (with_reducible repeat (first | apply Kd.R_alloc | apply Kd.R_drewN | apply Kd.R_drew)); exact Kd.R_mono HO170.out (fun _ hk => hk.1), (qdb35_ HB.out), (q8d66_ HK.out)⟩
              ·rw [if_neg c34] at H
               exact absurd H (by simp)
             ·rw [if_neg c31] at H
              exact absurd H (by simp)
            ·rw [if_neg c30] at H
             exact absurd H (by simp)
           ·rw [if_neg c29] at H
            exact absurd H (by simp)
          ·rw [if_neg c28] at H
           exact absurd H (by simp)
     ·rw [if_neg c7] at H
      exact absurd H (by simp)
    ·rw [if_neg c6] at H
     exact absurd H (by simp)
   ·rw [if_neg c4] at H
    have c4b0 : decide (0 < x5_1) = false := decide_eq_false c4
    clear c4
    by_cases c42 : a1 < 0
    ·rw [if_pos c42] at H
     have c42b0 : decide (a1 < 0) = true := decide_eq_true c42
     clear c42
     obtain rfl := Option.some.inj H
     go_wp2
     go_ret
     exact ⟨_, by first | rfl | (simp [errW_none, errW_some] <;> rfl) | (simp [*, errW_none, errW_some] <;> rfl), by (with_reducible repeat (first | apply Kd.R_alloc | apply Kd.R_drewN | apply Kd.R_drew)); exact HO_0.out, (qdb35_ HB.out), (q8d66_ HK.out)⟩
    ·rw [if_neg c42] at H
     have c42b0 : decide (a1 < 0) = false := decide_eq_false c42
     clear c42
     by_cases c43 : a1 > 16384
     ·rw [if_pos c43] at H
      have c43b0 : decide (16384 < a1) = true := decide_eq_true c43
      clear c43
      obtain rfl := Option.some.inj H
      go_wp2
      go_ret
      exact ⟨_, by first | rfl | (simp [errW_none, errW_some] <;> rfl) | (simp [*, errW_none, errW_some] <;> rfl), by (with_reducible repeat (first | apply Kd.R_alloc | apply Kd.R_drewN | apply Kd.R_drew)); exact HO_0.out, (qdb35_ HB.out), (q8d66_ HK.out)⟩
     ·rw [if_neg c43] at H
      have c43b0 : decide (16384 < a1) = false := decide_eq_false c43
      clear c43
      by_cases c44 : x5_1 < (l0.length : Int)
      ·rw [if_pos c44] at H
       have c44b0 : decide (x5_1 < (l0.length : Int)) = true := decide_eq_true c44
       clear c44
       by_cases c45 : 0 ≤ x5_1
       ·rw [if_pos c45] at H
        have c45b0 : decide (0 ≤ x5_1) = true := decide_eq_true c45
        clear c45
        by_cases c46 : (rd l0 x5_1) = a1
        ·rw [if_pos c46] at H
         have c46b0 : ((rd l0 x5_1) == a1) = true := beq_iff_eq.mpr c46
         have c46b1 : ((rd l0 x5_1) != a1) = false := bne_eq_false_iff_eq.mpr c46
         clear c46
         obtain rfl := Option.some.inj H
         have p171 : 0 ≤ (x5_1 : Int) := of_decide_eq_true (by first | (with_reducible assumption) | assumption)
         have q171 : x5_1 < (l0.length : Int) := of_decide_eq_true (by first | (with_reducible assumption) | assumption)
         obtain ⟨ad171, e171, hx171_0⟩ := Kd.at_int (Kd.R_reads' HO_0.out).2.2 x5_1 p171 q171
         cases e171
         replace p171 := eq_true p171
         replace q171 := eq_true q171
         go_wp2
         go_ret
         exact ⟨_, by first | rfl | (simp [errW_none, errW_some] <;> rfl) | (simp [*, errW_none, errW_some] <;> rfl), by (with_reducible repeat (first | apply Kd.R_alloc | apply Kd.R_drewN | apply Kd.R_drew)); exact HO_0.out, (qdb35_ HB.out), (q8d66_ HK.out)⟩
        ·rw [if_neg c46] at H
         have c46b0 : ((rd l0 x5_1) == a1) = false := beq_eq_false_iff_ne.mpr c46
         have c46b1 : ((rd l0 x5_1) != a1) = true := bne_iff_ne.mpr c46
         obtain ⟨y172, hy172⟩ : ∃ y_ : List Int, y_ = (([] : List Int)) := ⟨_, rfl⟩
         replace H : (if x5_1 ≤ (l0.length : Int) then ((some (l0.take (x5_1 : Int).toNat : List Int)).bind fun y175 => (if y172.length + y175.length < 17592186044416 then ((some (y172 ++ y175 : List Int)).bind fun y179 => (if y179.length < 17592186044416 then ((some (y179 ++ [a1] : List Int)).bind fun y182 => ((some (l0.drop (x5_1 : Int).toNat : List Int)).bind fun y185 => (if y182.length + y185.length < 17592186044416 then (some (y182 ++ y185)) else (none)))) else (none))) else (none))) else (none)) = some r := by first | (rw [hy172]; with_reducible exact H) | (have H2_ := (Option.bind_some _ _).symm.trans H; rw [hy172]; with_reducible exact H2_) | (have H2_ := (Option.bind_some _ _).symm.trans H; with_reducible exact H2_) | with_reducible exact H | (rw [hy172]; exact H) | exact H
         have Ny172 := Aside0.mk hy172
         clear hy172
         have c47b0 := eq_true (of_decide_eq_true (by first | (with_reducible assumption) | assumption) : 0 ≤ x5_1)
         by_cases c48 : x5_1 ≤ (l0.length : Int)
         ·rw [if_pos c48] at H
          have c48b0 := eq_true c48
          have c48b1 : decide (x5_1 ≤ (l0.length : Int)) = true := decide_eq_true c48
          clear c48
          obtain ⟨y175, hy175⟩ : ∃ y_ : List Int, y_ = (l0.take (x5_1 : Int).toNat) := ⟨_, rfl⟩
          replace H : (if y172.length + y175.length < 17592186044416 then ((some (y172 ++ y175 : List Int)).bind fun y179 => (if y179.length < 17592186044416 then ((some (y179 ++ [a1] : List Int)).bind fun y182 => ((some (l0.drop (x5_1 : Int).toNat : List Int)).bind fun y185 => (if y182.length + y185.length < 17592186044416 then (some (y182 ++ y185)) else (none)))) else (none))) else (none)) = some r := by first | (rw [hy175]; with_reducible exact H) | (have H2_ := (Option.bind_some _ _).symm.trans H; rw [hy175]; with_reducible exact H2_) | (have H2_ := (Option.bind_some _ _).symm.trans H; with_reducible exact H2_) | with_reducible exact H | (rw [hy175]; exact H) | exact H
          have Ny175 := Aside0.mk hy175
          clear hy175
          by_cases c49 : y172.length + y175.length < 17592186044416
          ·rw [if_pos c49] at H
           have LMc49 := Aside0.mk c49
           clear c49
           obtain ⟨y179, hy179⟩ : ∃ y_ : List Int, y_ = (y172 ++ y175) := ⟨_, rfl⟩
           replace H : (if y179.length < 17592186044416 then ((some (y179 ++ [a1] : List Int)).bind fun y182 => ((some (l0.drop (x5_1 : Int).toNat : List Int)).bind fun y185 => (if y182.length + y185.length < 17592186044416 then (some (y182 ++ y185)) else (none)))) else (none)) = some r := by first | (rw [hy179]; with_reducible exact H) | (have H2_ := (Option.bind_some _ _).symm.trans H; rw [hy179]; with_reducible exact H2_) | (have H2_ := (Option.bind_some _ _).symm.trans H; with_reducible exact H2_) | with_reducible exact H | (rw [hy179]; exact H) | exact H
           have Ny179 := Aside0.mk hy179
           clear hy179
           by_cases c50 : y179.length < 17592186044416
           ·rw [if_pos c50] at H
            have LMc50 := Aside0.mk c50
            clear c50
            obtain ⟨y182, hy182⟩ : ∃ y_ : List Int, y_ = (y179 ++ [a1]) := ⟨_, rfl⟩
            replace H : ((some (l0.drop (x5_1 : Int).toNat : List Int)).bind fun y185 => (if y182.length + y185.length < 17592186044416 then (some (y182 ++ y185)) else (none))) = some r := by first | (rw [hy182]; with_reducible exact H) | (have H2_ := (Option.bind_some _ _).symm.trans H; rw [hy182]; with_reducible exact H2_) | (have H2_ := (Option.bind_some _ _).symm.trans H; with_reducible exact H2_) | with_reducible exact H | (rw [hy182]; exact H) | exact H
            have Ny182 := Aside0.mk hy182
            clear hy182
            have c51b0 := eq_true (of_decide_eq_true (by first | (with_reducible assumption) | assumption) : 0 ≤ x5_1)
            have c52b0 := eq_true (of_decide_eq_true (by first | (with_reducible assumption) | assumption) : x5_1 ≤ (l0.length : Int))
            obtain ⟨y185, hy185⟩ : ∃ y_ : List Int, y_ = (l0.drop (x5_1 : Int).toNat) := ⟨_, rfl⟩
            replace H : (if y182.length + y185.length < 17592186044416 then (some (y182 ++ y185)) else (none)) = some r := by first | (rw [hy185]; with_reducible exact H) | (have H2_ := (Option.bind_some _ _).symm.trans H; rw [hy185]; with_reducible exact H2_) | (have H2_ := (Option.bind_some _ _).symm.trans H; with_reducible exact H2_) | with_reducible exact H | (rw [hy185]; exact H) | exact H
            have Ny185 := Aside0.mk hy185
            clear hy185
            by_cases c53 : y182.length + y185.length < 17592186044416
            ·rw [if_pos c53] at H
             have LMc53 := Aside0.mk c53
             clear c53
             obtain ⟨y189, hy189⟩ : ∃ y_ : List Int, y_ = (y182 ++ y185) := ⟨_, rfl⟩
             replace H : (some y189) = some r := by first | (rw [hy189]; with_reducible exact H) | (have H2_ := (Option.bind_some _ _).symm.trans H; rw [hy189]; with_reducible exact H2_) | (have H2_ := (Option.bind_some _ _).symm.trans H; with_reducible exact H2_) | with_reducible exact H | (rw [hy189]; exact H) | exact H
             have Ny189 := Aside0.mk hy189
             clear hy189
             obtain rfl := Option.some.inj H
             have p171 : 0 ≤ (x5_1 : Int) := of_decide_eq_true (by first | (with_reducible assumption) | assumption)
             have q171 : x5_1 < (l0.length : Int) := of_decide_eq_true (by first | (with_reducible assumption) | assumption)
             obtain ⟨ad171, e171, hx171_0⟩ := Kd.at_int (Kd.R_reads' HO_0.out).2.2 x5_1 p171 q171
             cases e171
             replace p171 := eq_true p171
             replace q171 := eq_true q171
             go_wp2_with (first | ((with_reducible refine gate_dst (N := 43) rfl ?_); (try (refine gate_guard (by rfl) ?_; dsimp only)); refine Kd.R_lit (Kd.int .i64) _ 3 ?hg (N := 43) ?hd (xs := ([] : List Int)) (inner := []) (ok := fun _ => True) (okp := fun _ => True) ?hr ?hp (fun _ hk => hk) trivial (Below.refl _ _) (Nat.le_refl _) (by simp) ?_; (case hd => rfl); (case hg => rfl); (case hr => first | (go_simp; done) | (go_simp; rfl)); (case hp => exact (Reps.none _ _)); intro v173 w54 ho55 hb hg_ hnew_; clear hg_ hnew_; (first | rw [← Ny172.out] at ho55 | (simp only [Int.reduceToNat] at ho55; rw [← Ny172.out] at ho55)); have n0_ := Aside0.mk (Kd.R_elder' (q8524_ HO_0.out) (Kd.R_base ho55) hb); have n1_ := Aside0.mk (Kd.R_lower (Kd.R_new' (Kd.R_newM (M := fun k_ => (P0_ k_ ∨ w.heap.size ≤ k_)) ho55 (by first | exact HK.out.1 | exact (show Kept w _ (fun k_ => P0_ k_) from (q8d66_ HK.out)).1) (fun k_ h_ => .inr h_)) (Kd.R_lt (q8524_ HO_0.out))) (below_size (qdb35_ HB.out))); have n2_ := Aside0.mk (Kept.below (S := (fun k_ => P0_ k_)) (q8d66_ HK.out) hb); have n3_ := Aside0.mk (below_step (qdb35_ HB.out) hb); clear HO_0; clear HK; clear HB; have HO_0 := n0_; have HO174 := n1_; have HK := n2_; have HB := n3_; clear n0_ n1_ n2_ n3_; clear hb ho55; have q56 : (x5_1 : Int) ≤ ((l0.length : Int) : Int) := of_decide_eq_true (by first | (with_reducible assumption) | assumption); obtain ⟨i056, hi056, _, hsz56, _⟩ := info_parts info3; have hroom56 : l0.length ≤ co3 := (Kd.R_reads' HO_0.out).2.1; have hC56 : Kd.C (Kd.int .i64) _ (some ad171) l0.length l0 := (Kd.R_reads' HO_0.out).2.2; have hcut56 := cut_to (P := Tryd.prog) 61 3 .i64 Tryd.underlying61 hi056 (some ad171) l0.length co3 x5_1 (of_decide_eq_true (by first | (with_reducible assumption) | assumption)) q56 hroom56; have hr56 := Kd.C_take (m := (x5_1 : Int).toNat) hC56 (by omega); have hy56 : y175.length = (x5_1 : Int).toNat := (by rw [Ny175.out, List.length_take]; omega); rw [← Ny175.out] at hr56; rw [← hy56] at hcut56; have HR178 := Aside0.mk hr56; have HC178 := Aside0.mk (show y175.length ≤ co3 from by omega); clear hr56 hC56 hroom56 hi056 hsz56; have KY56 := Aside0.mk hy56; clear hy56; have KL56 := Aside0.mk (show (x5_1 : Int).toNat ≤ l0.length from by omega); replace q56 := eq_true q56) | ((with_reducible refine gate_builtin (b := .append) (xs := #[.tmp 43, .tmp 46]) rfl ?_); (try (refine gate_guard (by rfl) ?_; dsimp only)); at_builtin; refine Kd.R_append_rows (Kd.int .i64) (w0 := w0) w0.heap.size rfl (.tmp 43) (.tmp 46) 61 3 (.int .i64 0) 8 rfl Tryd.underlying61 info3 rfl (by decide) (by omega) v173 y172 y175 _ _ _ (fun k_ => (P0_ k_ ∨ w.heap.size ≤ k_) ∧ some k_ ≠ (.slice (some ad171) l0.length co3 : Value).ownBlock) (fun _ => False) rfl rfl ?aO ?aR (fun _ _ h => h) (fun _ h => h.elim) ?aF ?aB ?aS ?aL ?_; (case aR => repeat (first | exact (q3f7a_ HR178.out) | (with_reducible refine Kd.C_alloc ?_ _) | (with_reducible refine Kd.C_drewN ?_ _) | (with_reducible refine Kd.C_drew ?_))); (case aB => exact (qdb35_ HB.out)); (case aF => exact (fun k_ hk => ⟨(.inr (Nat.le_trans (by first | exact HK.out.1 | exact (show Kept w _ (fun k_ => P0_ k_) from (q8d66_ HK.out)).1) hk)), Kd.fresh' (Kd.R_lt (q8524_ HO_0.out)) k_ hk⟩)); (case aO => exact (by (with_reducible repeat (first | apply Kd.R_alloc | apply Kd.R_drewN | apply Kd.R_drew)); exact Kd.R_mono HO174.out (fun _ hk => ⟨hk.1.1, hk.2⟩))); (case aS => exact (below_size (qdb35_ HB.out))); (case aL => have := LMc49.out; omega); intro v180 w57 ho hb hg hat; rw [← Ny179.out] at ho; have n0_ := Aside0.mk (Kd.R_after (ok := (fun k_ => (P0_ k_ ∨ w.heap.size ≤ k_))) (q8524_ HO_0.out) hg hat); have n1_ := Aside0.mk (hb); have n2_ := Aside0.mk (Kept.of_grown (S := (fun k_ => P0_ k_)) hg (q8d66_ HK.out) (fun k_ e_ => (HO174.out.1 k_ e_).1.1)); have n3_ := Aside0.mk ((show Kd.C (Kd.int .i64) w57 (some ad171) y175.length y175 from by rw [Ny175.out]; exact Kd.C_take (m := (x5_1 : Int).toNat) ((Kd.R_reads' (Kd.R_after (ok := (fun k_ => (P0_ k_ ∨ w.heap.size ≤ k_))) (q8524_ HO_0.out) hg hat)).2.2) KL56.out)); have n4_ := Aside0.mk (ho); clear HO_0; clear HB; clear HK; clear HR178; clear HO174; have HO_0 := n0_; have HB := n1_; have HK := n2_; have HR178 := n3_; have HO181 := n4_; clear n0_ n1_ n2_ n3_ n4_; clear ho hb hg hat) | ((with_reducible refine gate_builtin (b := .append) (xs := #[.tmp 48, .tmp 50]) rfl ?_); (try (refine gate_guard (by rfl) ?_; dsimp only)); at_builtin; refine Kd.R_append (Kd.int .i64) (w0 := w0) w0.heap.size rfl (.tmp 48) (.tmp 50) 61 3 (.int .i64 0) 8 rfl Tryd.underlying61 info3 rfl (by decide) (by omega) v180 y179 a1 [.int .i64 a1] (fun k_ => (P0_ k_ ∨ w.heap.size ≤ k_) ∧ some k_ ≠ (.slice (some ad171) l0.length co3 : Value).ownBlock) (fun _ => False) rfl rfl ?aP (fun _ hk => hk.elim) ?aF ?aO ?aB ?aS ?aL ?_; (case aP => exact rfl); (case aB => exact (qdb35_ HB.out)); (case aF => exact (fun k_ hk => ⟨(.inr (Nat.le_trans (by first | exact HK.out.1 | exact (show Kept w _ (fun k_ => P0_ k_) from (q8d66_ HK.out)).1) hk)), Kd.fresh' (Kd.R_lt (q8524_ HO_0.out)) k_ hk⟩)); (case aO => exact (q8524_ HO181.out)); (case aS => exact (below_size (qdb35_ HB.out))); (case aL => have := LMc50.out; omega); intro v183 w58 ho hb hg hat; rw [← Ny182.out] at ho; have n0_ := Aside0.mk (Kd.R_after (ok := (fun k_ => (P0_ k_ ∨ w.heap.size ≤ k_))) (q8524_ HO_0.out) hg hat); have n1_ := Aside0.mk (hb); have n2_ := Aside0.mk (Kept.of_grown (S := (fun k_ => P0_ k_)) hg (q8d66_ HK.out) (fun k_ e_ => (HO181.out.1 k_ e_).1)); have n3_ := Aside0.mk ((show Kd.C (Kd.int .i64) w58 (some ad171) y175.length y175 from by rw [Ny175.out]; exact Kd.C_take (m := (x5_1 : Int).toNat) ((Kd.R_reads' (Kd.R_after (ok := (fun k_ => (P0_ k_ ∨ w.heap.size ≤ k_))) (q8524_ HO_0.out) hg hat)).2.2) KL56.out)); have n4_ := Aside0.mk (ho); clear HO_0; clear HB; clear HK; clear HR178; clear HO181; have HO_0 := n0_; have HB := n1_; have HK := n2_; have HR178 := n3_; have HO184 := n4_; clear n0_ n1_ n2_ n3_ n4_; clear ho hb hg hat; have q59 : (x5_1 : Int) ≤ ((l0.length : Int) : Int) := of_decide_eq_true (by first | (with_reducible assumption) | assumption); obtain ⟨i059, hi059, _, hsz59, _⟩ := info_parts info3; have hroom59 : l0.length ≤ co3 := (Kd.R_reads' HO_0.out).2.1; have hC59 : Kd.C (Kd.int .i64) _ (some ad171) l0.length l0 := (Kd.R_reads' HO_0.out).2.2; have q059 : (0 : Int) ≤ (x5_1 : Int) := of_decide_eq_true (by first | (with_reducible assumption) | assumption); have hcut59 := cut_from (P := Tryd.prog) 61 3 .i64 Tryd.underlying61 hi059 1 hsz59 (some ad171) l0.length co3 x5_1 q059 q59; have hr59 := Kd.C_drop (m := (x5_1 : Int).toNat) (c := co3) hC59 (by omega) hroom59; obtain ⟨A59, hA59⟩ : ∃ A1, A1 = (if co3 = (x5_1 : Int).toNat then (some ad171) else ((some ad171) : Option Addr).map (·.add ((x5_1 : Int).toNat * 1))) := ⟨_, rfl⟩; obtain ⟨c59, hc59⟩ : ∃ c1, c1 = co3 - (x5_1 : Int).toNat := ⟨_, rfl⟩; have hy59 : y185.length = l0.length - (x5_1 : Int).toNat := (by rw [Ny185.out, List.length_drop] <;> omega); rw [show (l0).drop (x5_1 : Int).toNat = y185 from Ny185.out.symm] at hr59; replace hr59 : Kd.C (Kd.int .i64) _ A59 y185.length y185 := (by rw [hA59]; exact hr59); rw [← hy59, ← hA59, ← hc59] at hcut59; have HR188 := Aside0.mk hr59; have HC188 := Aside0.mk (show y185.length ≤ c59 from by rw [hy59, hc59]; exact Nat.sub_le_sub_right hroom59 _); clear hr59 hC59 hroom59 hi059 hsz59 hc59; have KY59 := Aside0.mk hy59; have KA59 := Aside0.mk hA59; clear hy59 hA59; have KL59 := Aside0.mk (show (x5_1 : Int).toNat ≤ l0.length from by omega); replace q59 := eq_true q59) | ((with_reducible refine gate_builtin (b := .append) (xs := #[.tmp 52, .tmp 55]) rfl ?_); (try (refine gate_guard (by rfl) ?_; dsimp only)); at_builtin; refine Kd.R_append_rows (Kd.int .i64) (w0 := w0) w0.heap.size rfl (.tmp 52) (.tmp 55) 61 3 (.int .i64 0) 8 rfl Tryd.underlying61 info3 rfl (by decide) (by omega) v183 y182 y185 _ _ _ (fun k_ => (P0_ k_ ∨ w.heap.size ≤ k_) ∧ some k_ ≠ (.slice (some ad171) l0.length co3 : Value).ownBlock) (fun _ => False) rfl rfl ?aO ?aR (fun _ _ h => h) (fun _ h => h.elim) ?aF ?aB ?aS ?aL ?_; (case aR => repeat (first | exact (q3f7a_ HR188.out) | (with_reducible refine Kd.C_alloc ?_ _) | (with_reducible refine Kd.C_drewN ?_ _) | (with_reducible refine Kd.C_drew ?_))); (case aB => exact (qdb35_ HB.out)); (case aF => exact (fun k_ hk => ⟨(.inr (Nat.le_trans (by first | exact HK.out.1 | exact (show Kept w _ (fun k_ => P0_ k_) from (q8d66_ HK.out)).1) hk)), Kd.fresh' (Kd.R_lt (q8524_ HO_0.out)) k_ hk⟩)); (case aO => exact (q8524_ HO184.out)); (case aS => exact (below_size (qdb35_ HB.out))); (case aL => have := LMc53.out; omega); intro v190 w60 ho hb hg hat; rw [← Ny189.out] at ho; have n0_ := Aside0.mk (Kd.R_after (ok := (fun k_ => (P0_ k_ ∨ w.heap.size ≤ k_))) (q8524_ HO_0.out) hg hat); have n1_ := Aside0.mk (hb); have n2_ := Aside0.mk (Kept.of_grown (S := (fun k_ => P0_ k_)) hg (q8d66_ HK.out) (fun k_ e_ => (HO184.out.1 k_ e_).1)); have n3_ := Aside0.mk ((show Kd.C (Kd.int .i64) w60 (some ad171) y175.length y175 from by rw [Ny175.out]; exact Kd.C_take (m := (x5_1 : Int).toNat) ((Kd.R_reads' (Kd.R_after (ok := (fun k_ => (P0_ k_ ∨ w.heap.size ≤ k_))) (q8524_ HO_0.out) hg hat)).2.2) KL56.out)); have n4_ := Aside0.mk ((show Kd.C (Kd.int .i64) w60 A59 y185.length y185 from by rw [Ny185.out, KA59.out]; exact Kd.C_drop (m := (x5_1 : Int).toNat) (c := co3) ((Kd.R_reads' (Kd.R_after (ok := (fun k_ => (P0_ k_ ∨ w.heap.size ≤ k_))) (q8524_ HO_0.out) hg hat)).2.2) KL59.out ((Kd.R_reads' (Kd.R_after (ok := (fun k_ => (P0_ k_ ∨ w.heap.size ≤ k_))) (q8524_ HO_0.out) hg hat)).2.1))); have n5_ := Aside0.mk (ho); clear HO_0; clear HB; clear HK; clear HR178; clear HR188; clear HO184; have HO_0 := n0_; have HB := n1_; have HK := n2_; have HR178 := n3_; have HR188 := n4_; have HO191 := n5_; clear n0_ n1_ n2_ n3_ n4_ n5_; clear ho hb hg hat))
             go_ret
             exact ⟨_, by first | rfl | (simp [errW_none, errW_some] <;> rfl) | (simp [*, errW_none, errW_some] <;> rfl), by (with_reducible repeat (first | apply Kd.R_alloc | apply Kd.R_drewN | apply Kd.R_drew)); exact Kd.R_mono HO191.out (fun _ hk => hk.1), (qdb35_ HB.out), (q8d66_ HK.out)⟩
            ·rw [if_neg c53] at H
             exact absurd H (by simp)
           ·rw [if_neg c50] at H
            exact absurd H (by simp)
          ·rw [if_neg c49] at H
           exact absurd H (by simp)
         ·rw [if_neg c48] at H
          exact absurd H (by simp)
       ·rw [if_neg c45] at H
        exact absurd H (by simp)
      ·rw [if_neg c44] at H
       have c44b0 : decide (x5_1 < (l0.length : Int)) = false := decide_eq_false c44
       clear c44
       obtain ⟨y192, hy192⟩ : ∃ y_ : List Int, y_ = (([] : List Int)) := ⟨_, rfl⟩
       replace H : (if 0 ≤ x5_1 then (if x5_1 ≤ (l0.length : Int) then ((some (l0.take (x5_1 : Int).toNat : List Int)).bind fun y195 => (if y192.length + y195.length < 17592186044416 then ((some (y192 ++ y195 : List Int)).bind fun y199 => (if y199.length < 17592186044416 then ((some (y199 ++ [a1] : List Int)).bind fun y202 => ((some (l0.drop (x5_1 : Int).toNat : List Int)).bind fun y205 => (if y202.length + y205.length < 17592186044416 then (some (y202 ++ y205)) else (none)))) else (none))) else (none))) else (none)) else (none)) = some r := by first | (rw [hy192]; with_reducible exact H) | (have H2_ := (Option.bind_some _ _).symm.trans H; rw [hy192]; with_reducible exact H2_) | (have H2_ := (Option.bind_some _ _).symm.trans H; with_reducible exact H2_) | with_reducible exact H | (rw [hy192]; exact H) | exact H
       have Ny192 := Aside0.mk hy192
       clear hy192
       by_cases c61 : 0 ≤ x5_1
       ·rw [if_pos c61] at H
        have c61b0 := eq_true c61
        have c61b1 : decide (0 ≤ x5_1) = true := decide_eq_true c61
        clear c61
        by_cases c62 : x5_1 ≤ (l0.length : Int)
        ·rw [if_pos c62] at H
         have c62b0 := eq_true c62
         have c62b1 : decide (x5_1 ≤ (l0.length : Int)) = true := decide_eq_true c62
         clear c62
         obtain ⟨y195, hy195⟩ : ∃ y_ : List Int, y_ = (l0.take (x5_1 : Int).toNat) := ⟨_, rfl⟩
         replace H : (if y192.length + y195.length < 17592186044416 then ((some (y192 ++ y195 : List Int)).bind fun y199 => (if y199.length < 17592186044416 then ((some (y199 ++ [a1] : List Int)).bind fun y202 => ((some (l0.drop (x5_1 : Int).toNat : List Int)).bind fun y205 => (if y202.length + y205.length < 17592186044416 then (some (y202 ++ y205)) else (none)))) else (none))) else (none)) = some r := by first | (rw [hy195]; with_reducible exact H) | (have H2_ := (Option.bind_some _ _).symm.trans H; rw [hy195]; with_reducible exact H2_) | (have H2_ := (Option.bind_some _ _).symm.trans H; with_reducible exact H2_) | with_reducible exact H | (rw [hy195]; exact H) | exact H
         have Ny195 := Aside0.mk hy195
         clear hy195
         by_cases c63 : y192.length + y195.length < 17592186044416
         ·rw [if_pos c63] at H
          have LMc63 := Aside0.mk c63
          clear c63
          obtain ⟨y199, hy199⟩ : ∃ y_ : List Int, y_ = (y192 ++ y195) := ⟨_, rfl⟩
          replace H : (if y199.length < 17592186044416 then ((some (y199 ++ [a1] : List Int)).bind fun y202 => ((some (l0.drop (x5_1 : Int).toNat : List Int)).bind fun y205 => (if y202.length + y205.length < 17592186044416 then (some (y202 ++ y205)) else (none)))) else (none)) = some r := by first | (rw [hy199]; with_reducible exact H) | (have H2_ := (Option.bind_some _ _).symm.trans H; rw [hy199]; with_reducible exact H2_) | (have H2_ := (Option.bind_some _ _).symm.trans H; with_reducible exact H2_) | with_reducible exact H | (rw [hy199]; exact H) | exact H
          have Ny199 := Aside0.mk hy199
          clear hy199
          by_cases c64 : y199.length < 17592186044416
          ·rw [if_pos c64] at H
           have LMc64 := Aside0.mk c64
           clear c64
           obtain ⟨y202, hy202⟩ : ∃ y_ : List Int, y_ = (y199 ++ [a1]) := ⟨_, rfl⟩
           replace H : ((some (l0.drop (x5_1 : Int).toNat : List Int)).bind fun y205 => (if y202.length + y205.length < 17592186044416 then (some (y202 ++ y205)) else (none))) = some r := by first | (rw [hy202]; with_reducible exact H) | (have H2_ := (Option.bind_some _ _).symm.trans H; rw [hy202]; with_reducible exact H2_) | (have H2_ := (Option.bind_some _ _).symm.trans H; with_reducible exact H2_) | with_reducible exact H | (rw [hy202]; exact H) | exact H
           have Ny202 := Aside0.mk hy202
           clear hy202
           have c65b0 := eq_true (of_decide_eq_true (by first | (with_reducible assumption) | assumption) : 0 ≤ x5_1)
           have c66b0 := eq_true (of_decide_eq_true (by first | (with_reducible assumption) | assumption) : x5_1 ≤ (l0.length : Int))
           obtain ⟨y205, hy205⟩ : ∃ y_ : List Int, y_ = (l0.drop (x5_1 : Int).toNat) := ⟨_, rfl⟩
           replace H : (if y202.length + y205.length < 17592186044416 then (some (y202 ++ y205)) else (none)) = some r := by first | (rw [hy205]; with_reducible exact H) | (have H2_ := (Option.bind_some _ _).symm.trans H; rw [hy205]; with_reducible exact H2_) | (have H2_ := (Option.bind_some _ _).symm.trans H; with_reducible exact H2_) | with_reducible exact H | (rw [hy205]; exact H) | exact H
           have Ny205 := Aside0.mk hy205
           clear hy205
           by_cases c67 : y202.length + y205.length < 17592186044416
           ·rw [if_pos c67] at H
            have LMc67 := Aside0.mk c67
            clear c67
            obtain ⟨y209, hy209⟩ : ∃ y_ : List Int, y_ = (y202 ++ y205) := ⟨_, rfl⟩
            replace H : (some y209) = some r := by first | (rw [hy209]; with_reducible exact H) | (have H2_ := (Option.bind_some _ _).symm.trans H; rw [hy209]; with_reducible exact H2_) | (have H2_ := (Option.bind_some _ _).symm.trans H; with_reducible exact H2_) | with_reducible exact H | (rw [hy209]; exact H) | exact H
            have Ny209 := Aside0.mk hy209
            clear hy209
            obtain rfl := Option.some.inj H
            go_wp2_with (first | ((with_reducible refine gate_dst (N := 43) rfl ?_); (try (refine gate_guard (by rfl) ?_; dsimp only)); refine Kd.R_lit (Kd.int .i64) _ 3 ?hg (N := 43) ?hd (xs := ([] : List Int)) (inner := []) (ok := fun _ => True) (okp := fun _ => True) ?hr ?hp (fun _ hk => hk) trivial (Below.refl _ _) (Nat.le_refl _) (by simp) ?_; (case hd => rfl); (case hg => rfl); (case hr => first | (go_simp; done) | (go_simp; rfl)); (case hp => exact (Reps.none _ _)); intro v193 w68 ho69 hb hg_ hnew_; clear hg_ hnew_; (first | rw [← Ny192.out] at ho69 | (simp only [Int.reduceToNat] at ho69; rw [← Ny192.out] at ho69)); have n0_ := Aside0.mk (Kd.R_elder' (q8524_ HO_0.out) (Kd.R_base ho69) hb); have n1_ := Aside0.mk (Kd.R_lower (Kd.R_new' (Kd.R_newM (M := fun k_ => (P0_ k_ ∨ w.heap.size ≤ k_)) ho69 (by first | exact HK.out.1 | exact (show Kept w _ (fun k_ => P0_ k_) from (q8d66_ HK.out)).1) (fun k_ h_ => .inr h_)) (Kd.R_lt (q8524_ HO_0.out))) (below_size (qdb35_ HB.out))); have n2_ := Aside0.mk (Kept.below (S := (fun k_ => P0_ k_)) (q8d66_ HK.out) hb); have n3_ := Aside0.mk (below_step (qdb35_ HB.out) hb); clear HO_0; clear HK; clear HB; have HO_0 := n0_; have HO194 := n1_; have HK := n2_; have HB := n3_; clear n0_ n1_ n2_ n3_; clear hb ho69; have q70 : (x5_1 : Int) ≤ ((l0.length : Int) : Int) := of_decide_eq_true (by first | (with_reducible assumption) | assumption); obtain ⟨i070, hi070, _, hsz70, _⟩ := info_parts info3; have hroom70 : l0.length ≤ co3 := (Kd.R_reads' HO_0.out).2.1; have hC70 : Kd.C (Kd.int .i64) _ Ao3 l0.length l0 := (Kd.R_reads' HO_0.out).2.2; have hcut70 := cut_to (P := Tryd.prog) 61 3 .i64 Tryd.underlying61 hi070 Ao3 l0.length co3 x5_1 (of_decide_eq_true (by first | (with_reducible assumption) | assumption)) q70 hroom70; have hr70 := Kd.C_take (m := (x5_1 : Int).toNat) hC70 (by omega); have hy70 : y195.length = (x5_1 : Int).toNat := (by rw [Ny195.out, List.length_take]; omega); rw [← Ny195.out] at hr70; rw [← hy70] at hcut70; have HR198 := Aside0.mk hr70; have HC198 := Aside0.mk (show y195.length ≤ co3 from by omega); clear hr70 hC70 hroom70 hi070 hsz70; have KY70 := Aside0.mk hy70; clear hy70; have KL70 := Aside0.mk (show (x5_1 : Int).toNat ≤ l0.length from by omega); replace q70 := eq_true q70) | ((with_reducible refine gate_builtin (b := .append) (xs := #[.tmp 43, .tmp 46]) rfl ?_); (try (refine gate_guard (by rfl) ?_; dsimp only)); at_builtin; refine Kd.R_append_rows (Kd.int .i64) (w0 := w0) w0.heap.size rfl (.tmp 43) (.tmp 46) 61 3 (.int .i64 0) 8 rfl Tryd.underlying61 info3 rfl (by decide) (by omega) v193 y192 y195 _ _ _ (fun k_ => (P0_ k_ ∨ w.heap.size ≤ k_) ∧ some k_ ≠ (.slice Ao3 l0.length co3 : Value).ownBlock) (fun _ => False) rfl rfl ?aO ?aR (fun _ _ h => h) (fun _ h => h.elim) ?aF ?aB ?aS ?aL ?_; (case aR => repeat (first | exact (q3f7a_ HR198.out) | (with_reducible refine Kd.C_alloc ?_ _) | (with_reducible refine Kd.C_drewN ?_ _) | (with_reducible refine Kd.C_drew ?_))); (case aB => exact (qdb35_ HB.out)); (case aF => exact (fun k_ hk => ⟨(.inr (Nat.le_trans (by first | exact HK.out.1 | exact (show Kept w _ (fun k_ => P0_ k_) from (q8d66_ HK.out)).1) hk)), Kd.fresh' (Kd.R_lt (q8524_ HO_0.out)) k_ hk⟩)); (case aO => exact (by (with_reducible repeat (first | apply Kd.R_alloc | apply Kd.R_drewN | apply Kd.R_drew)); exact Kd.R_mono HO194.out (fun _ hk => ⟨hk.1.1, hk.2⟩))); (case aS => exact (below_size (qdb35_ HB.out))); (case aL => have := LMc63.out; omega); intro v200 w71 ho hb hg hat; rw [← Ny199.out] at ho; have n0_ := Aside0.mk (Kd.R_after (ok := (fun k_ => (P0_ k_ ∨ w.heap.size ≤ k_))) (q8524_ HO_0.out) hg hat); have n1_ := Aside0.mk (hb); have n2_ := Aside0.mk (Kept.of_grown (S := (fun k_ => P0_ k_)) hg (q8d66_ HK.out) (fun k_ e_ => (HO194.out.1 k_ e_).1.1)); have n3_ := Aside0.mk ((show Kd.C (Kd.int .i64) w71 Ao3 y195.length y195 from by rw [Ny195.out]; exact Kd.C_take (m := (x5_1 : Int).toNat) ((Kd.R_reads' (Kd.R_after (ok := (fun k_ => (P0_ k_ ∨ w.heap.size ≤ k_))) (q8524_ HO_0.out) hg hat)).2.2) KL70.out)); have n4_ := Aside0.mk (ho); clear HO_0; clear HB; clear HK; clear HR198; clear HO194; have HO_0 := n0_; have HB := n1_; have HK := n2_; have HR198 := n3_; have HO201 := n4_; clear n0_ n1_ n2_ n3_ n4_; clear ho hb hg hat) | ((with_reducible refine gate_builtin (b := .append) (xs := #[.tmp 48, .tmp 50]) rfl ?_); (try (refine gate_guard (by rfl) ?_; dsimp only)); at_builtin; refine Kd.R_append (Kd.int .i64) (w0 := w0) w0.heap.size rfl (.tmp 48) (.tmp 50) 61 3 (.int .i64 0) 8 rfl Tryd.underlying61 info3 rfl (by decide) (by omega) v200 y199 a1 [.int .i64 a1] (fun k_ => (P0_ k_ ∨ w.heap.size ≤ k_) ∧ some k_ ≠ (.slice Ao3 l0.length co3 : Value).ownBlock) (fun _ => False) rfl rfl ?aP (fun _ hk => hk.elim) ?aF ?aO ?aB ?aS ?aL ?_; (case aP => exact rfl); (case aB => exact (qdb35_ HB.out)); (case aF => exact (fun k_ hk => ⟨(.inr (Nat.le_trans (by first | exact HK.out.1 | exact (show Kept w _ (fun k_ => P0_ k_) from (q8d66_ HK.out)).1) hk)), Kd.fresh' (Kd.R_lt (q8524_ HO_0.out)) k_ hk⟩)); (case aO => exact (q8524_ HO201.out)); (case aS => exact (below_size (qdb35_ HB.out))); (case aL => have := LMc64.out; omega); intro v203 w72 ho hb hg hat; rw [← Ny202.out] at ho; have n0_ := Aside0.mk (Kd.R_after (ok := (fun k_ => (P0_ k_ ∨ w.heap.size ≤ k_))) (q8524_ HO_0.out) hg hat); have n1_ := Aside0.mk (hb); have n2_ := Aside0.mk (Kept.of_grown (S := (fun k_ => P0_ k_)) hg (q8d66_ HK.out) (fun k_ e_ => (HO201.out.1 k_ e_).1)); have n3_ := Aside0.mk ((show Kd.C (Kd.int .i64) w72 Ao3 y195.length y195 from by rw [Ny195.out]; exact Kd.C_take (m := (x5_1 : Int).toNat) ((Kd.R_reads' (Kd.R_after (ok := (fun k_ => (P0_ k_ ∨ w.heap.size ≤ k_))) (q8524_ HO_0.out) hg hat)).2.2) KL70.out)); have n4_ := Aside0.mk (ho); clear HO_0; clear HB; clear HK; clear HR198; clear HO201; have HO_0 := n0_; have HB := n1_; have HK := n2_; have HR198 := n3_; have HO204 := n4_; clear n0_ n1_ n2_ n3_ n4_; clear ho hb hg hat; have q73 : (x5_1 : Int) ≤ ((l0.length : Int) : Int) := of_decide_eq_true (by first | (with_reducible assumption) | assumption); obtain ⟨i073, hi073, _, hsz73, _⟩ := info_parts info3; have hroom73 : l0.length ≤ co3 := (Kd.R_reads' HO_0.out).2.1; have hC73 : Kd.C (Kd.int .i64) _ Ao3 l0.length l0 := (Kd.R_reads' HO_0.out).2.2; have q073 : (0 : Int) ≤ (x5_1 : Int) := of_decide_eq_true (by first | (with_reducible assumption) | assumption); have hcut73 := cut_from (P := Tryd.prog) 61 3 .i64 Tryd.underlying61 hi073 1 hsz73 Ao3 l0.length co3 x5_1 q073 q73; have hr73 := Kd.C_drop (m := (x5_1 : Int).toNat) (c := co3) hC73 (by omega) hroom73; obtain ⟨A73, hA73⟩ : ∃ A1, A1 = (if co3 = (x5_1 : Int).toNat then Ao3 else (Ao3 : Option Addr).map (·.add ((x5_1 : Int).toNat * 1))) := ⟨_, rfl⟩; obtain ⟨c73, hc73⟩ : ∃ c1, c1 = co3 - (x5_1 : Int).toNat := ⟨_, rfl⟩; have hy73 : y205.length = l0.length - (x5_1 : Int).toNat := (by rw [Ny205.out, List.length_drop] <;> omega); rw [show (l0).drop (x5_1 : Int).toNat = y205 from Ny205.out.symm] at hr73; replace hr73 : Kd.C (Kd.int .i64) _ A73 y205.length y205 := (by rw [hA73]; exact hr73); rw [← hy73, ← hA73, ← hc73] at hcut73; have HR208 := Aside0.mk hr73; have HC208 := Aside0.mk (show y205.length ≤ c73 from by rw [hy73, hc73]; exact Nat.sub_le_sub_right hroom73 _); clear hr73 hC73 hroom73 hi073 hsz73 hc73; have KY73 := Aside0.mk hy73; have KA73 := Aside0.mk hA73; clear hy73 hA73; have KL73 := Aside0.mk (show (x5_1 : Int).toNat ≤ l0.length from by omega); replace q73 := eq_true q73) | ((with_reducible refine gate_builtin (b := .append) (xs := #[.tmp 52, .tmp 55]) rfl ?_); (try (refine gate_guard (by rfl) ?_; dsimp only)); at_builtin; refine Kd.R_append_rows (Kd.int .i64) (w0 := w0) w0.heap.size rfl (.tmp 52) (.tmp 55) 61 3 (.int .i64 0) 8 rfl Tryd.underlying61 info3 rfl (by decide) (by omega) v203 y202 y205 _ _ _ (fun k_ => (P0_ k_ ∨ w.heap.size ≤ k_) ∧ some k_ ≠ (.slice Ao3 l0.length co3 : Value).ownBlock) (fun _ => False) rfl rfl ?aO ?aR (fun _ _ h => h) (fun _ h => h.elim) ?aF ?aB ?aS ?aL ?_; (case aR => repeat (first | exact (q3f7a_ HR208.out) | (with_reducible refine Kd.C_alloc ?_ _) | (with_reducible refine Kd.C_drewN ?_ _) | (with_reducible refine Kd.C_drew ?_))); (case aB => exact (qdb35_ HB.out)); (case aF => exact (fun k_ hk => ⟨(.inr (Nat.le_trans (by first | exact HK.out.1 | exact (show Kept w _ (fun k_ => P0_ k_) from (q8d66_ HK.out)).1) hk)), Kd.fresh' (Kd.R_lt (q8524_ HO_0.out)) k_ hk⟩)); (case aO => exact (q8524_ HO204.out)); (case aS => exact (below_size (qdb35_ HB.out))); (case aL => have := LMc67.out; omega); intro v210 w74 ho hb hg hat; rw [← Ny209.out] at ho; have n0_ := Aside0.mk (Kd.R_after (ok := (fun k_ => (P0_ k_ ∨ w.heap.size ≤ k_))) (q8524_ HO_0.out) hg hat); have n1_ := Aside0.mk (hb); have n2_ := Aside0.mk (Kept.of_grown (S := (fun k_ => P0_ k_)) hg (q8d66_ HK.out) (fun k_ e_ => (HO204.out.1 k_ e_).1)); have n3_ := Aside0.mk ((show Kd.C (Kd.int .i64) w74 Ao3 y195.length y195 from by rw [Ny195.out]; exact Kd.C_take (m := (x5_1 : Int).toNat) ((Kd.R_reads' (Kd.R_after (ok := (fun k_ => (P0_ k_ ∨ w.heap.size ≤ k_))) (q8524_ HO_0.out) hg hat)).2.2) KL70.out)); have n4_ := Aside0.mk ((show Kd.C (Kd.int .i64) w74 A73 y205.length y205 from by rw [Ny205.out, KA73.out]; exact Kd.C_drop (m := (x5_1 : Int).toNat) (c := co3) ((Kd.R_reads' (Kd.R_after (ok := (fun k_ => (P0_ k_ ∨ w.heap.size ≤ k_))) (q8524_ HO_0.out) hg hat)).2.2) KL73.out ((Kd.R_reads' (Kd.R_after (ok := (fun k_ => (P0_ k_ ∨ w.heap.size ≤ k_))) (q8524_ HO_0.out) hg hat)).2.1))); have n5_ := Aside0.mk (ho); clear HO_0; clear HB; clear HK; clear HR198; clear HR208; clear HO204; have HO_0 := n0_; have HB := n1_; have HK := n2_; have HR198 := n3_; have HR208 := n4_; have HO211 := n5_; clear n0_ n1_ n2_ n3_ n4_ n5_; clear ho hb hg hat))
            go_ret
            exact ⟨_, by first | rfl | (simp [errW_none, errW_some] <;> rfl) | (simp [*, errW_none, errW_some] <;> rfl), by (with_reducible repeat (first | apply Kd.R_alloc | apply Kd.R_drewN | apply Kd.R_drew)); exact Kd.R_mono HO211.out (fun _ hk => hk.1), (qdb35_ HB.out), (q8d66_ HK.out)⟩
           ·rw [if_neg c67] at H
            exact absurd H (by simp)
          ·rw [if_neg c64] at H
           exact absurd H (by simp)
         ·rw [if_neg c63] at H
          exact absurd H (by simp)
        ·rw [if_neg c62] at H
         exact absurd H (by simp)
       ·rw [if_neg c61] at H
        exact absurd H (by simp)

end Go.Proofs.YtnlakdpfkgjdaaaDoor.G
