-- PRINTED BY print.sh 35421559b90ae4d0a3588c463048766b98c2df88dd9212a6774a882060cdf62d: not written by this session
import Derived.Test.YtfmhhahhomnkbaaPTextPartsx0
namespace Go.Proofs.Ytfmhhahhomnkbaa.PTextParts
open Go.RowKit Go.Proofs.YtfmhhahhomnkbaaW.PrintWords Go.Proofs.YtfmhhahhomnkbaaW.PrintLast Go.Proofs.YtfmhhahhomnkbaaW.PrintMore
attribute [local go_sem] max2_int min2_int max_two min_two max_three min_three max_four min_four   -- for this text's walks alone
set_option linter.unusedVariables false
set_option linter.unusedSimpArgs false

/-! ### text_Range: function 8 -/
def text_Range.j0 : Nat → Int → Int → Int → Option (Int × Int)
  | 0, _, _, _ => none
  | k + 1, x0, x1, x2 => if x2 < 0 then (if (mx x1 0) ≥ (wrap64 ((mn (wrap64 (x2 + x0)) (wrap64 (x0 - 1))) + 1)) then (some (0, 0)) else (some (mx x1 0, wrap64 ((mn (wrap64 (x2 + x0)) (wrap64 (x0 - 1))) + 1)))) else (if (mx x1 0) ≥ (wrap64 ((mn x2 (wrap64 (x0 - 1))) + 1)) then (some (0, 0)) else (some (mx x1 0, wrap64 ((mn x2 (wrap64 (x0 - 1))) + 1))))
def text_Range.f (k : Nat) (a0 : Int) (a1 : Int) (a2 : Int) : Option (Int × Int) := if a1 < 0 then (text_Range.j0 k a0 (wrap64 (a1 + a0)) a2) else (text_Range.j0 k a0 a1 a2)
theorem text_Range.mono_l : ∀ k, (∀ y0 y1 y2, LeO (text_Range.j0 k y0 y1 y2) (text_Range.j0 (k + 1) y0 y1 y2))
  | 0 => fun _ _ _ r h => by simp [text_Range.j0] at h
  | k + 1 => by
    have ih0 := text_Range.mono_l k
    · intro y0 y1 y2
      unfold text_Range.j0
      repeat' first
      | (with_reducible exact ih0 _ _ _)
      | (with_reducible exact LeO.refl _)
      | (with_reducible exact LeO.none _)
      | (with_reducible refine LeO.ite ?_ ?_)
      | (with_reducible refine LeO.bind ?_ (fun _ => ?_))
      | exact ih0 _ _ _
      | exact LeO.none _
      | refine LeO.ite ?_ ?_
      | refine LeO.bind ?_ (fun _ => ?_)
theorem text_Range.mono : ∀ a0 a1 a2 k, LeO (text_Range.f k a0 a1 a2) (text_Range.f (k + 1) a0 a1 a2) := by
  intro a0 a1 a2 k
  have ih0 := text_Range.mono_l k
  unfold text_Range.f
  repeat' first
      | (with_reducible exact ih0 _ _ _)
      | (with_reducible exact LeO.refl _)
      | (with_reducible exact LeO.none _)
      | (with_reducible refine LeO.ite ?_ ?_)
      | (with_reducible refine LeO.bind ?_ (fun _ => ?_))
      | exact ih0 _ _ _
      | exact LeO.none _
      | refine LeO.ite ?_ ?_
      | refine LeO.bind ?_ (fun _ => ?_)
set_option maxHeartbeats 8000000 in
set_option maxRecDepth 100000 in
theorem text_Range.calls (k : Nat) (a0 : Int) (a1 : Int) (a2 : Int) (r1 : Int) (r2 : Int) (w : World) (h : text_Range.f k a0 a1 a2 = some (r1, r2)) :
    Calls Try.prog 8 #[.int .i64 a0, .int .i64 a1, .int .i64 a2] w fun e w' => e = .returned (.tuple #[.int .i64 r1, .int .i64 r2]) ∧ Below w.heap.size w w' := by
  have HB := Aside0.mk (Below.refl w.heap.size w)
  have H : (if a1 < 0 then (text_Range.j0 k a0 (wrap64 (a1 + a0)) a2) else (text_Range.j0 k a0 a1 a2)) = some (r1, r2) := h
  clear h
  have HC4 := Aside0.mk H
  clear H
  go_enter Try.func8, Try.ntmps8
  go_upto_if 9 with (fail)
  go_cut [1] (fun v1 wc => ∃ (kq : Nat) (x1_3 : Int), v1 = .int .i64 x1_3 ∧ Aside0 (text_Range.j0 kq a0 x1_3 a2 = some (r1, r2)) ∧ Aside0 (kq ≤ k) ∧ Aside0 (Below w.heap.size w wc))
  case first =>
    have H := HC4.out
    clear HC4
    by_cases c5 : a1 < 0
    · rw [if_pos c5] at H
      have c5b0 : decide (a1 < 0) = true := decide_eq_true c5
      clear c5
      (first | rw [c5b0] | (simp only [i64_w, i32_w]; rw [c5b0]) | skip)
      have H' := Aside0.mk H
      clear H
      go_wp2
      go_meet
      case rel => exact ⟨_, (wrap64 (a1 + a0)), (by first | rfl | (simp; done) | (simp [*]; done)), H', ⟨by first | omega | exact Nat.le_refl _⟩, ⟨by repeat (first | (with_reducible first | exact HB.out | apply below_alloc | apply pw_below_drewN | apply below_drew1) | exact HB.out)⟩⟩
    · rw [if_neg c5] at H
      have c5b0 : decide (a1 < 0) = false := decide_eq_false c5
      clear c5
      (first | rw [c5b0] | (simp only [i64_w, i32_w]; rw [c5b0]) | skip)
      have H' := Aside0.mk H
      clear H
      go_wp2
      go_meet
      case rel => exact ⟨_, (a1), (by first | rfl | (simp; done) | (simp [*]; done)), H', ⟨by first | omega | exact Nat.le_refl _⟩, ⟨by repeat (first | (with_reducible first | exact HB.out | apply below_alloc | apply pw_below_drewN | apply below_drew1) | exact HB.out)⟩⟩
  case rest =>
    clear HC4
    try clear p2
    try clear c5
    try clear c5b0
    obtain ⟨kq, x1_3, rfl, HA, HJ3, HB⟩ := hcut
    cases kq with
    | zero => exact absurd HA.out (by simp [text_Range.j0])
    | succ kj3 =>
      have H := HA.out
      clear HA
      simp only [text_Range.j0] at H
      by_cases c6 : a2 < 0
      · rw [if_pos c6] at H
        have c6b0 : decide (a2 < 0) = true := decide_eq_true c6
        clear c6
        obtain ⟨ji7, hji7⟩ : ∃ j_ : Int, (mx x1_3 0) = j_ := ⟨_, rfl⟩
        replace H : (if (ji7) ≥ (wrap64 ((mn (wrap64 (a2 + a0)) (wrap64 (a0 - 1))) + 1)) then (some (0, 0)) else (some (ji7, wrap64 ((mn (wrap64 (a2 + a0)) (wrap64 (a0 - 1))) + 1)))) = some (r1, r2) := by first | (rw [hji7] at H; exact H) | (simp only [hji7] at H ⊢; exact H)
        have hji7_ : (if x1_3 < 0 then 0 else x1_3) = ji7 := hji7
        obtain ⟨ji8, hji8⟩ : ∃ j_ : Int, (mn (wrap64 (a2 + a0)) (wrap64 (a0 - 1))) = j_ := ⟨_, rfl⟩
        replace H : (if (ji7) ≥ (wrap64 ((ji8) + 1)) then (some (0, 0)) else (some (ji7, wrap64 ((ji8) + 1)))) = some (r1, r2) := by first | (rw [hji8] at H; exact H) | (simp only [hji8] at H ⊢; exact H)
        have hji8_ : (if (wrap64 (a0 - 1)) < (wrap64 (a2 + a0)) then (wrap64 (a0 - 1)) else (wrap64 (a2 + a0))) = ji8 := hji8
        by_cases c9 : (ji7) ≥ (wrap64 ((ji8) + 1))
        · rw [if_pos c9] at H
          have c9b0 : decide ((wrap64 ((ji8) + 1)) ≤ (ji7)) = true := decide_eq_true c9
          clear c9
          simp only [Option.some.injEq, Prod.mk.injEq] at H
          obtain ⟨rfl, rfl⟩ := H
          go_wp2
          go_ret2
          exact ⟨by first | rfl | (simp [errW_none, errW_some] <;> rfl) | (simp only [← hji7, ← hji8]; first | rfl | (simp [errW_none, errW_some] <;> rfl)) | (simp [*, errW_none, errW_some] <;> rfl), by repeat (first | (with_reducible first | exact HB.out | apply below_alloc | apply pw_below_drewN | apply below_drew1) | exact HB.out)⟩
        · rw [if_neg c9] at H
          have c9b0 : decide ((wrap64 ((ji8) + 1)) ≤ (ji7)) = false := decide_eq_false c9
          clear c9
          simp only [Option.some.injEq, Prod.mk.injEq] at H
          obtain ⟨rfl, rfl⟩ := H
          go_wp2
          go_ret2
          exact ⟨by first | rfl | (simp [errW_none, errW_some] <;> rfl) | (simp only [← hji7, ← hji8]; first | rfl | (simp [errW_none, errW_some] <;> rfl)) | (simp [*, errW_none, errW_some] <;> rfl), by repeat (first | (with_reducible first | exact HB.out | apply below_alloc | apply pw_below_drewN | apply below_drew1) | exact HB.out)⟩
      · rw [if_neg c6] at H
        have c6b0 : decide (a2 < 0) = false := decide_eq_false c6
        clear c6
        obtain ⟨ji10, hji10⟩ : ∃ j_ : Int, (mx x1_3 0) = j_ := ⟨_, rfl⟩
        replace H : (if (ji10) ≥ (wrap64 ((mn a2 (wrap64 (a0 - 1))) + 1)) then (some (0, 0)) else (some (ji10, wrap64 ((mn a2 (wrap64 (a0 - 1))) + 1)))) = some (r1, r2) := by first | (rw [hji10] at H; exact H) | (simp only [hji10] at H ⊢; exact H)
        have hji10_ : (if x1_3 < 0 then 0 else x1_3) = ji10 := hji10
        obtain ⟨ji11, hji11⟩ : ∃ j_ : Int, (mn a2 (wrap64 (a0 - 1))) = j_ := ⟨_, rfl⟩
        replace H : (if (ji10) ≥ (wrap64 ((ji11) + 1)) then (some (0, 0)) else (some (ji10, wrap64 ((ji11) + 1)))) = some (r1, r2) := by first | (rw [hji11] at H; exact H) | (simp only [hji11] at H ⊢; exact H)
        have hji11_ : (if (wrap64 (a0 - 1)) < a2 then (wrap64 (a0 - 1)) else a2) = ji11 := hji11
        by_cases c12 : (ji10) ≥ (wrap64 ((ji11) + 1))
        · rw [if_pos c12] at H
          have c12b0 : decide ((wrap64 ((ji11) + 1)) ≤ (ji10)) = true := decide_eq_true c12
          clear c12
          simp only [Option.some.injEq, Prod.mk.injEq] at H
          obtain ⟨rfl, rfl⟩ := H
          go_wp2
          go_ret2
          exact ⟨by first | rfl | (simp [errW_none, errW_some] <;> rfl) | (simp only [← hji10, ← hji11]; first | rfl | (simp [errW_none, errW_some] <;> rfl)) | (simp [*, errW_none, errW_some] <;> rfl), by repeat (first | (with_reducible first | exact HB.out | apply below_alloc | apply pw_below_drewN | apply below_drew1) | exact HB.out)⟩
        · rw [if_neg c12] at H
          have c12b0 : decide ((wrap64 ((ji11) + 1)) ≤ (ji10)) = false := decide_eq_false c12
          clear c12
          simp only [Option.some.injEq, Prod.mk.injEq] at H
          obtain ⟨rfl, rfl⟩ := H
          go_wp2
          go_ret2
          exact ⟨by first | rfl | (simp [errW_none, errW_some] <;> rfl) | (simp only [← hji10, ← hji11]; first | rfl | (simp [errW_none, errW_some] <;> rfl)) | (simp [*, errW_none, errW_some] <;> rfl), by repeat (first | (with_reducible first | exact HB.out | apply below_alloc | apply pw_below_drewN | apply below_drew1) | exact HB.out)⟩

/-! ### text_Sub: function 6 -/
def text_Sub.f (k : Nat) (a0 : ByteArray) (a1 : Int) (a2 : Int) : Option (ByteArray) := (text_Range.f k (a0.size : Int) a1 a2).bind fun bt101 => (if 0 ≤ bt101.1 then (if bt101.1 ≤ bt101.2 then (if bt101.2 ≤ (a0.size : Int) then (some (a0.extract (bt101.1 : Int).toNat (bt101.2 : Int).toNat)) else (none)) else (none)) else (none))
theorem text_Sub.mono : ∀ a0 a1 a2 k, LeO (text_Sub.f k a0 a1 a2) (text_Sub.f (k + 1) a0 a1 a2) := by
  intro a0 a1 a2 k
  unfold text_Sub.f
  repeat' first
      | (with_reducible exact text_Range.mono _ _ _ _)
      | (with_reducible exact LeO.refl _)
      | (with_reducible exact LeO.none _)
      | (with_reducible refine LeO.ite ?_ ?_)
      | (with_reducible refine LeO.bind ?_ (fun _ => ?_))
      | exact text_Range.mono _ _ _ _
      | exact LeO.none _
      | refine LeO.ite ?_ ?_
      | refine LeO.bind ?_ (fun _ => ?_)
set_option maxHeartbeats 8000000 in
set_option maxRecDepth 100000 in
theorem text_Sub.calls (k : Nat) (a0 : ByteArray) (a1 : Int) (a2 : Int) (r : ByteArray) (w : World) (h : text_Sub.f k a0 a1 a2 = some r) :
    Calls Try.prog 6 #[.string a0, .int .i64 a1, .int .i64 a2] w fun e w' => e = .returned (.string r) ∧ Below w.heap.size w w' := by
  have HB := Aside0.mk (Below.refl w.heap.size w)
  have H : ((text_Range.f k (a0.size : Int) a1 a2).bind fun bt101 => (if 0 ≤ bt101.1 then (if bt101.1 ≤ bt101.2 then (if bt101.2 ≤ (a0.size : Int) then (some (a0.extract (bt101.1 : Int).toNat (bt101.2 : Int).toNat)) else (none)) else (none)) else (none))) = some r := h
  clear h
  replace H := Option.bind_eq_some_iff.mp H
  obtain ⟨⟨t101, t102⟩, A40, H⟩ := H
  replace H : (if 0 ≤ t101 then (if t101 ≤ t102 then (if t102 ≤ (a0.size : Int) then (some (a0.extract (t101 : Int).toNat (t102 : Int).toNat)) else (none)) else (none)) else (none)) = some r := H
  have A4 := Aside0.mk A40
  clear A40
  by_cases c5 : 0 ≤ t101
  · rw [if_pos c5] at H
    have c5b0 := eq_true c5
    have c5b1 : decide (0 ≤ t101) = true := decide_eq_true c5
    clear c5
    by_cases c6 : t101 ≤ t102
    · rw [if_pos c6] at H
      have c6b0 := eq_true c6
      have c6b1 : decide (t101 ≤ t102) = true := decide_eq_true c6
      clear c6
      by_cases c7 : t102 ≤ (a0.size : Int)
      · rw [if_pos c7] at H
        have c7b0 := eq_true c7
        have c7b1 : decide (t102 ≤ (a0.size : Int)) = true := decide_eq_true c7
        clear c7
        obtain rfl := Option.some.inj H
        go_enter Try.func6, Try.ntmps6
        go_wp2_with (first | ((with_reducible refine gate_callee (f := 8) rfl ?_); refine goesL_ (some 14) rfl rfl Try.func8 (by kernel_rfl) rfl #[.int .i64 (a0.size : Int), .int .i64 a1, .int .i64 a2] rfl (by (try simp only [List.map_toArray, List.map_cons, List.map_nil]); first | done | rfl | (simp only [List.length_drop, List.length_take]; rfl)) ?_; (with_reducible refine (text_Range.calls k (a0.size : Int) a1 a2 t101 t102 _ A4.out).mono ?_); rintro e w8 ⟨rfl, hb⟩; refine ⟨_, rfl, ?_⟩; have n0_ := Aside0.mk (below_step (by repeat (first | (with_reducible first | exact HB.out | apply below_alloc | apply pw_below_drewN | apply below_drew1) | exact HB.out)) hb); clear HB; have HB := n0_; clear n0_; (try clear hb); (try clear hb2); (try clear hk); (try clear hi)))
        go_ret
        exact ⟨by first | rfl | (simp [errW_none, errW_some] <;> rfl) | (simp [*, errW_none, errW_some] <;> rfl), by repeat (first | (with_reducible first | exact HB.out | apply below_alloc | apply pw_below_drewN | apply below_drew1) | exact HB.out)⟩
      · rw [if_neg c7] at H
        exact absurd H (by simp)
    · rw [if_neg c6] at H
      exact absurd H (by simp)
  · rw [if_neg c5] at H
    exact absurd H (by simp)

/-! ### caravanlaw6_awake: function 5 -/
def caravanlaw6_awake.f (k : Nat)  : Option (Bool) := (text_Sub.f k (⟨#[97, 98, 99]⟩ : ByteArray) (-2) (-1)).bind fun t103 => (some (t103.toList == ([98, 99] : List UInt8)))
theorem caravanlaw6_awake.mono : ∀ k, LeO (caravanlaw6_awake.f k ) (caravanlaw6_awake.f (k + 1) ) := by
  intro  k
  unfold caravanlaw6_awake.f
  repeat' first
      | (with_reducible exact text_Sub.mono _ _ _ _)
      | (with_reducible exact LeO.refl _)
      | (with_reducible exact LeO.none _)
      | (with_reducible refine LeO.ite ?_ ?_)
      | (with_reducible refine LeO.bind ?_ (fun _ => ?_))
      | exact text_Sub.mono _ _ _ _
      | exact LeO.none _
      | refine LeO.ite ?_ ?_
      | refine LeO.bind ?_ (fun _ => ?_)
set_option maxHeartbeats 8000000 in
set_option maxRecDepth 100000 in
theorem caravanlaw6_awake.calls (k : Nat)  (r : Bool) (w : World) (h : caravanlaw6_awake.f k  = some r) :
    Calls Try.prog 5 #[] w fun e w' => e = .returned (.bool r) ∧ Below w.heap.size w w' := by
  have HB := Aside0.mk (Below.refl w.heap.size w)
  have H : ((text_Sub.f k (⟨#[97, 98, 99]⟩ : ByteArray) (-2) (-1)).bind fun t103 => (some (t103.toList == ([98, 99] : List UInt8)))) = some r := h
  clear h
  replace H := Option.bind_eq_some_iff.mp H
  obtain ⟨t103, A10, H⟩ := H
  replace H : (some (t103.toList == ([98, 99] : List UInt8))) = some r := H
  have A1 := Aside0.mk A10
  clear A10
  obtain rfl := Option.some.inj H
  go_enter Try.func5, Try.ntmps5
  go_wp2_with (first | ((with_reducible refine gate_callee (f := 6) rfl ?_); refine goesL_ (some 1) rfl rfl Try.func6 (by kernel_rfl) rfl #[.string (⟨#[97, 98, 99]⟩ : ByteArray), .int .i64 (-2), .int .i64 (-1)] rfl (by (try simp only [List.map_toArray, List.map_cons, List.map_nil]); first | done | rfl | (simp only [List.length_drop, List.length_take]; rfl)) ?_; (with_reducible refine (text_Sub.calls k (⟨#[97, 98, 99]⟩ : ByteArray) (-2) (-1) t103 _ A1.out).mono ?_); rintro e w2 ⟨rfl, hb⟩; refine ⟨_, rfl, ?_⟩; have n0_ := Aside0.mk (below_step (by repeat (first | (with_reducible first | exact HB.out | apply below_alloc | apply pw_below_drewN | apply below_drew1) | exact HB.out)) hb); clear HB; have HB := n0_; clear n0_; (try clear hb); (try clear hb2); (try clear hk); (try clear hi)))
  go_ret
  exact ⟨by first | rfl | (simp [errW_none, errW_some] <;> rfl) | (simp [*, errW_none, errW_some] <;> rfl), by repeat (first | (with_reducible first | exact HB.out | apply below_alloc | apply pw_below_drewN | apply below_drew1) | exact HB.out)⟩

/-! ### caravanlaw6_TextParts: function 3 -/
def caravanlaw6_TextParts.j0 : Nat → ByteArray → Int → Bool → Option (Bool)
  | 0, _, _, _ => none
  | k + 1, x0, x1, x15 => if x15 = true then ((caravanlaw6_awake.f k).bind fun t104 => (some t104)) else (if (x0.size : Int) = 0 then (none) else ((text_Sub.f k x0 0 (Int.tmod (wrap64 (x1)) (x0.size : Int))).bind fun t105 => ((text_Sub.f k x0 (wrap64 ((Int.tmod (wrap64 (x1)) (x0.size : Int)) + 1)) (-1)).bind fun t106 => ((text_Sub.f k x0 (wrap64 ((Int.tmod (wrap64 (x1)) (x0.size : Int)) - (x0.size : Int))) (-1)).bind fun t107 => (if t105.size + t106.size ≤ 9223372036854775807 then (if (t105 ++ t106).toList = x0.toList then (if (t105.size : Int) = (wrap64 ((Int.tmod (wrap64 (x1)) (x0.size : Int)) + 1)) then (if 0 ≤ (Int.tmod (wrap64 (x1)) (x0.size : Int)) then (if (Int.tmod (wrap64 (x1)) (x0.size : Int)) ≤ (x0.size : Int) then (if t107.toList = (x0.extract ((Int.tmod (wrap64 (x1)) (x0.size : Int)) : Int).toNat x0.size).toList then ((text_Sub.f k x0 0 (-1)).bind fun t108 => (if t108.toList = x0.toList then ((text_Sub.f k x0 (-1000) 1000).bind fun t109 => (if t109.toList = x0.toList then ((text_Sub.f k x0 (wrap64 ((Int.tmod (wrap64 (x1)) (x0.size : Int)) + 1)) (Int.tmod (wrap64 (x1)) (x0.size : Int))).bind fun t110 => (if t110.toList = ([] : List UInt8) then ((caravanlaw6_awake.f k).bind fun t111 => (some t111)) else (some false))) else (some false))) else (some false))) else (some false)) else (none)) else (none)) else (some false)) else (some false)) else (none))))))
def caravanlaw6_TextParts.f (k : Nat) (a0 : ByteArray) (a1 : Int) : Option (Bool) := if a0.toList = ([] : List UInt8) then (caravanlaw6_TextParts.j0 k a0 a1 true) else (caravanlaw6_TextParts.j0 k a0 a1 (decide ((a0.size : Int) > 300)))
theorem caravanlaw6_TextParts.mono_l : ∀ k, (∀ y0 y1 y2, LeO (caravanlaw6_TextParts.j0 k y0 y1 y2) (caravanlaw6_TextParts.j0 (k + 1) y0 y1 y2))
  | 0 => fun _ _ _ r h => by simp [caravanlaw6_TextParts.j0] at h
  | k + 1 => by
    have ih0 := caravanlaw6_TextParts.mono_l k
    · intro y0 y1 y2
      unfold caravanlaw6_TextParts.j0
      repeat' first
      | (with_reducible exact ih0 _ _ _)
      | (with_reducible exact caravanlaw6_awake.mono _)
      | (with_reducible exact text_Sub.mono _ _ _ _)
      | (with_reducible exact LeO.refl _)
      | (with_reducible exact LeO.none _)
      | (with_reducible refine LeO.ite ?_ ?_)
      | (with_reducible refine LeO.bind ?_ (fun _ => ?_))
      | exact ih0 _ _ _
      | exact caravanlaw6_awake.mono _
      | exact text_Sub.mono _ _ _ _
      | exact LeO.none _
      | refine LeO.ite ?_ ?_
      | refine LeO.bind ?_ (fun _ => ?_)
theorem caravanlaw6_TextParts.mono : ∀ a0 a1 k, LeO (caravanlaw6_TextParts.f k a0 a1) (caravanlaw6_TextParts.f (k + 1) a0 a1) := by
  intro a0 a1 k
  have ih0 := caravanlaw6_TextParts.mono_l k
  unfold caravanlaw6_TextParts.f
  repeat' first
      | (with_reducible exact ih0 _ _ _)
      | (with_reducible exact caravanlaw6_awake.mono _)
      | (with_reducible exact text_Sub.mono _ _ _ _)
      | (with_reducible exact LeO.refl _)
      | (with_reducible exact LeO.none _)
      | (with_reducible refine LeO.ite ?_ ?_)
      | (with_reducible refine LeO.bind ?_ (fun _ => ?_))
      | exact ih0 _ _ _
      | exact caravanlaw6_awake.mono _
      | exact text_Sub.mono _ _ _ _
      | exact LeO.none _
      | refine LeO.ite ?_ ?_
      | refine LeO.bind ?_ (fun _ => ?_)
set_option maxHeartbeats 8000000 in
set_option maxRecDepth 100000 in
theorem caravanlaw6_TextParts.calls (k : Nat) (a0 : ByteArray) (a1 : Int) (r : Bool) (w : World) (h : caravanlaw6_TextParts.f k a0 a1 = some r) :
    Calls Try.prog 3 #[.string a0, .int .u16 a1] w fun e w' => e = .returned (.bool r) ∧ Below w.heap.size w w' := by
  have HB := Aside0.mk (Below.refl w.heap.size w)
  have H : (if a0.toList = ([] : List UInt8) then (caravanlaw6_TextParts.j0 k a0 a1 true) else (caravanlaw6_TextParts.j0 k a0 a1 (decide ((a0.size : Int) > 300)))) = some r := h
  clear h
  have HC3 := Aside0.mk H
  clear H
  go_enter Try.func3, Try.ntmps3
  go_upto_region 1 with (fail)
  go_cut [15] (fun v15 wc => ∃ (kq : Nat) (x15_2 : Bool), v15 = .bool x15_2 ∧ Aside0 (caravanlaw6_TextParts.j0 kq a0 a1 x15_2 = some r) ∧ Aside0 (kq ≤ k) ∧ Aside0 (Below w.heap.size w wc))
  case first =>
    have H := HC3.out
    clear HC3
    by_cases c4 : a0.toList = ([] : List UInt8)
    · rw [if_pos c4] at H
      have c4b0 : (a0.toList == ([] : List UInt8)) = true := beq_iff_eq.mpr c4
      have c4b1 : (a0.toList != ([] : List UInt8)) = false := bne_eq_false_iff_eq.mpr c4
      clear c4
      (first | rw [c4b0] | (simp only [i64_w, i32_w]; rw [c4b0]) | skip)
      have H' := Aside0.mk H
      clear H
      go_wp2
      go_meet
      case rel => exact ⟨_, (true), (by first | rfl | (simp; done) | (simp [*]; done)), H', ⟨by first | omega | exact Nat.le_refl _⟩, ⟨by repeat (first | (with_reducible first | exact HB.out | apply below_alloc | apply pw_below_drewN | apply below_drew1) | exact HB.out)⟩⟩
    · rw [if_neg c4] at H
      have c4b0 : (a0.toList == ([] : List UInt8)) = false := beq_eq_false_iff_ne.mpr c4
      have c4b1 : (a0.toList != ([] : List UInt8)) = true := bne_iff_ne.mpr c4
      (first | rw [c4b0] | (simp only [i64_w, i32_w]; rw [c4b0]) | skip)
      have H' := Aside0.mk H
      clear H
      go_wp2
      go_meet
      case rel => exact ⟨_, (decide ((a0.size : Int) > 300)), (by first | rfl | (simp; done) | (simp [*]; done)), H', ⟨by first | omega | exact Nat.le_refl _⟩, ⟨by repeat (first | (with_reducible first | exact HB.out | apply below_alloc | apply pw_below_drewN | apply below_drew1) | exact HB.out)⟩⟩
  case rest =>
    clear HC3
    try clear p2
    try clear c3
    try clear c4
    try clear c4b0
    try clear c4b1
    obtain ⟨kq, x15_2, rfl, HA, HJ2, HB⟩ := hcut
    cases kq with
    | zero => exact absurd HA.out (by simp [caravanlaw6_TextParts.j0])
    | succ kj2 =>
      have H := HA.out
      clear HA
      simp only [caravanlaw6_TextParts.j0] at H
      by_cases c5 : x15_2 = true
      · subst c5
        have H1 : ((caravanlaw6_awake.f kj2).bind fun t104 => (some t104)) = some r := by rw [if_pos rfl] at H; exact H
        clear H
        have H := H1
        clear H1
        replace H := Option.bind_eq_some_iff.mp H
        obtain ⟨t104, A60, H⟩ := H
        replace H : (some t104) = some r := H
        have A6 := Aside0.mk A60
        clear A60
        obtain rfl := Option.some.inj H
        go_wp2_with (first | ((with_reducible refine gate_callee (f := 5) rfl ?_); refine goesL_ (some 16) rfl rfl Try.func5 (by kernel_rfl) rfl #[] rfl (by (try simp only [List.map_toArray, List.map_cons, List.map_nil]); first | done | rfl | (simp only [List.length_drop, List.length_take]; rfl)) ?_; (with_reducible refine (caravanlaw6_awake.calls kj2  t104 _ A6.out).mono ?_); rintro e w7 ⟨rfl, hb⟩; refine ⟨_, rfl, ?_⟩; have n0_ := Aside0.mk (below_step (by repeat (first | (with_reducible first | exact HB.out | apply below_alloc | apply pw_below_drewN | apply below_drew1) | exact HB.out)) hb); clear HB; have HB := n0_; clear n0_; (try clear hb); (try clear hb2); (try clear hk); (try clear hi)))
        go_ret
        exact ⟨by first | rfl | (simp [errW_none, errW_some] <;> rfl) | (simp [*, errW_none, errW_some] <;> rfl), by repeat (first | (with_reducible first | exact HB.out | apply below_alloc | apply pw_below_drewN | apply below_drew1) | exact HB.out)⟩
      · replace c5 := Bool.eq_false_iff.mpr c5
        subst c5
        have H1 : (if (a0.size : Int) = 0 then (none) else ((text_Sub.f kj2 a0 0 (Int.tmod (wrap64 (a1)) (a0.size : Int))).bind fun t105 => ((text_Sub.f kj2 a0 (wrap64 ((Int.tmod (wrap64 (a1)) (a0.size : Int)) + 1)) (-1)).bind fun t106 => ((text_Sub.f kj2 a0 (wrap64 ((Int.tmod (wrap64 (a1)) (a0.size : Int)) - (a0.size : Int))) (-1)).bind fun t107 => (if t105.size + t106.size ≤ 9223372036854775807 then (if (t105 ++ t106).toList = a0.toList then (if (t105.size : Int) = (wrap64 ((Int.tmod (wrap64 (a1)) (a0.size : Int)) + 1)) then (if 0 ≤ (Int.tmod (wrap64 (a1)) (a0.size : Int)) then (if (Int.tmod (wrap64 (a1)) (a0.size : Int)) ≤ (a0.size : Int) then (if t107.toList = (a0.extract ((Int.tmod (wrap64 (a1)) (a0.size : Int)) : Int).toNat a0.size).toList then ((text_Sub.f kj2 a0 0 (-1)).bind fun t108 => (if t108.toList = a0.toList then ((text_Sub.f kj2 a0 (-1000) 1000).bind fun t109 => (if t109.toList = a0.toList then ((text_Sub.f kj2 a0 (wrap64 ((Int.tmod (wrap64 (a1)) (a0.size : Int)) + 1)) (Int.tmod (wrap64 (a1)) (a0.size : Int))).bind fun t110 => (if t110.toList = ([] : List UInt8) then ((caravanlaw6_awake.f kj2).bind fun t111 => (some t111)) else (some false))) else (some false))) else (some false))) else (some false)) else (none)) else (none)) else (some false)) else (some false)) else (none)))))) = some r := by rw [if_neg (show ¬ (false = true) by decide)] at H; exact H
        clear H
        have H := H1
        clear H1
        by_cases c8 : (a0.size : Int) = 0
        · rw [if_pos c8] at H
          exact absurd H (by simp)
        · rw [if_neg c8] at H
          have c8b0 : ((a0.size : Int) == 0) = false := beq_eq_false_iff_ne.mpr c8
          have c8b1 : ((a0.size : Int) != 0) = true := bne_iff_ne.mpr c8
          replace H := Option.bind_eq_some_iff.mp H
          obtain ⟨t105, A90, H⟩ := H
          replace H : ((text_Sub.f kj2 a0 (wrap64 ((Int.tmod (wrap64 (a1)) (a0.size : Int)) + 1)) (-1)).bind fun t106 => ((text_Sub.f kj2 a0 (wrap64 ((Int.tmod (wrap64 (a1)) (a0.size : Int)) - (a0.size : Int))) (-1)).bind fun t107 => (if t105.size + t106.size ≤ 9223372036854775807 then (if (t105 ++ t106).toList = a0.toList then (if (t105.size : Int) = (wrap64 ((Int.tmod (wrap64 (a1)) (a0.size : Int)) + 1)) then (if 0 ≤ (Int.tmod (wrap64 (a1)) (a0.size : Int)) then (if (Int.tmod (wrap64 (a1)) (a0.size : Int)) ≤ (a0.size : Int) then (if t107.toList = (a0.extract ((Int.tmod (wrap64 (a1)) (a0.size : Int)) : Int).toNat a0.size).toList then ((text_Sub.f kj2 a0 0 (-1)).bind fun t108 => (if t108.toList = a0.toList then ((text_Sub.f kj2 a0 (-1000) 1000).bind fun t109 => (if t109.toList = a0.toList then ((text_Sub.f kj2 a0 (wrap64 ((Int.tmod (wrap64 (a1)) (a0.size : Int)) + 1)) (Int.tmod (wrap64 (a1)) (a0.size : Int))).bind fun t110 => (if t110.toList = ([] : List UInt8) then ((caravanlaw6_awake.f kj2).bind fun t111 => (some t111)) else (some false))) else (some false))) else (some false))) else (some false)) else (none)) else (none)) else (some false)) else (some false)) else (none)))) = some r := H
          have A9 := Aside0.mk A90
          clear A90
          replace H := Option.bind_eq_some_iff.mp H
          obtain ⟨t106, A100, H⟩ := H
          replace H : ((text_Sub.f kj2 a0 (wrap64 ((Int.tmod (wrap64 (a1)) (a0.size : Int)) - (a0.size : Int))) (-1)).bind fun t107 => (if t105.size + t106.size ≤ 9223372036854775807 then (if (t105 ++ t106).toList = a0.toList then (if (t105.size : Int) = (wrap64 ((Int.tmod (wrap64 (a1)) (a0.size : Int)) + 1)) then (if 0 ≤ (Int.tmod (wrap64 (a1)) (a0.size : Int)) then (if (Int.tmod (wrap64 (a1)) (a0.size : Int)) ≤ (a0.size : Int) then (if t107.toList = (a0.extract ((Int.tmod (wrap64 (a1)) (a0.size : Int)) : Int).toNat a0.size).toList then ((text_Sub.f kj2 a0 0 (-1)).bind fun t108 => (if t108.toList = a0.toList then ((text_Sub.f kj2 a0 (-1000) 1000).bind fun t109 => (if t109.toList = a0.toList then ((text_Sub.f kj2 a0 (wrap64 ((Int.tmod (wrap64 (a1)) (a0.size : Int)) + 1)) (Int.tmod (wrap64 (a1)) (a0.size : Int))).bind fun t110 => (if t110.toList = ([] : List UInt8) then ((caravanlaw6_awake.f kj2).bind fun t111 => (some t111)) else (some false))) else (some false))) else (some false))) else (some false)) else (none)) else (none)) else (some false)) else (some false)) else (none))) = some r := H
          have A10 := Aside0.mk A100
          clear A100
          replace H := Option.bind_eq_some_iff.mp H
          obtain ⟨t107, A110, H⟩ := H
          replace H : (if t105.size + t106.size ≤ 9223372036854775807 then (if (t105 ++ t106).toList = a0.toList then (if (t105.size : Int) = (wrap64 ((Int.tmod (wrap64 (a1)) (a0.size : Int)) + 1)) then (if 0 ≤ (Int.tmod (wrap64 (a1)) (a0.size : Int)) then (if (Int.tmod (wrap64 (a1)) (a0.size : Int)) ≤ (a0.size : Int) then (if t107.toList = (a0.extract ((Int.tmod (wrap64 (a1)) (a0.size : Int)) : Int).toNat a0.size).toList then ((text_Sub.f kj2 a0 0 (-1)).bind fun t108 => (if t108.toList = a0.toList then ((text_Sub.f kj2 a0 (-1000) 1000).bind fun t109 => (if t109.toList = a0.toList then ((text_Sub.f kj2 a0 (wrap64 ((Int.tmod (wrap64 (a1)) (a0.size : Int)) + 1)) (Int.tmod (wrap64 (a1)) (a0.size : Int))).bind fun t110 => (if t110.toList = ([] : List UInt8) then ((caravanlaw6_awake.f kj2).bind fun t111 => (some t111)) else (some false))) else (some false))) else (some false))) else (some false)) else (none)) else (none)) else (some false)) else (some false)) else (none)) = some r := H
          have A11 := Aside0.mk A110
          clear A110
          by_cases c12 : t105.size + t106.size ≤ 9223372036854775807
          · rw [if_pos c12] at H
            have c12b0 := eq_true c12
            have c12b1 : decide (t105.size + t106.size ≤ 9223372036854775807) = true := decide_eq_true c12
            try have c12b2 : (9223372036854775807 < t105.size + t106.size) = False := eq_false (Nat.not_lt.2 c12)
            by_cases c13 : (t105 ++ t106).toList = a0.toList
            · rw [if_pos c13] at H
              have c13b0 : ((t105 ++ t106).toList == a0.toList) = true := beq_iff_eq.mpr c13
              have c13b1 : ((t105 ++ t106).toList != a0.toList) = false := bne_eq_false_iff_eq.mpr c13
              clear c13
              by_cases c14 : (t105.size : Int) = (wrap64 ((Int.tmod (wrap64 (a1)) (a0.size : Int)) + 1))
              · rw [if_pos c14] at H
                have c14b0 : ((t105.size : Int) == (wrap64 ((Int.tmod (wrap64 (a1)) (a0.size : Int)) + 1))) = true := beq_iff_eq.mpr c14
                have c14b1 : ((t105.size : Int) != (wrap64 ((Int.tmod (wrap64 (a1)) (a0.size : Int)) + 1))) = false := bne_eq_false_iff_eq.mpr c14
                clear c14
                obtain ⟨ji15, hji15⟩ : ∃ j_ : Int, (Int.tmod (wrap64 (a1)) (a0.size : Int)) = j_ := ⟨_, rfl⟩
                replace H : (if 0 ≤ (ji15) then (if (ji15) ≤ (a0.size : Int) then (if t107.toList = (a0.extract ((ji15) : Int).toNat a0.size).toList then ((text_Sub.f kj2 a0 0 (-1)).bind fun t108 => (if t108.toList = a0.toList then ((text_Sub.f kj2 a0 (-1000) 1000).bind fun t109 => (if t109.toList = a0.toList then ((text_Sub.f kj2 a0 (wrap64 ((ji15) + 1)) (ji15)).bind fun t110 => (if t110.toList = ([] : List UInt8) then ((caravanlaw6_awake.f kj2).bind fun t111 => (some t111)) else (some false))) else (some false))) else (some false))) else (some false)) else (none)) else (none)) = some r := by first | (rw [hji15] at H; exact H) | (simp only [hji15] at H ⊢; exact H)
                (try rw [hji15] at c14b0)
                (try rw [hji15] at c14b1)
                (try rw [hji15] at A9)
                (try rw [hji15] at A10)
                (try rw [hji15] at A11)
                by_cases c16 : 0 ≤ (ji15)
                · rw [if_pos c16] at H
                  have c16b0 := eq_true c16
                  have c16b1 : decide (0 ≤ (ji15)) = true := decide_eq_true c16
                  clear c16
                  by_cases c17 : (ji15) ≤ (a0.size : Int)
                  · rw [if_pos c17] at H
                    have c17b0 := eq_true c17
                    have c17b1 : decide ((ji15) ≤ (a0.size : Int)) = true := decide_eq_true c17
                    clear c17
                    by_cases c18 : t107.toList = (a0.extract ((ji15) : Int).toNat a0.size).toList
                    · rw [if_pos c18] at H
                      have c18b0 : (t107.toList == (a0.extract ((ji15) : Int).toNat a0.size).toList) = true := beq_iff_eq.mpr c18
                      have c18b1 : (t107.toList != (a0.extract ((ji15) : Int).toNat a0.size).toList) = false := bne_eq_false_iff_eq.mpr c18
                      clear c18
                      replace H := Option.bind_eq_some_iff.mp H
                      obtain ⟨t108, A190, H⟩ := H
                      replace H : (if t108.toList = a0.toList then ((text_Sub.f kj2 a0 (-1000) 1000).bind fun t109 => (if t109.toList = a0.toList then ((text_Sub.f kj2 a0 (wrap64 ((ji15) + 1)) (ji15)).bind fun t110 => (if t110.toList = ([] : List UInt8) then ((caravanlaw6_awake.f kj2).bind fun t111 => (some t111)) else (some false))) else (some false))) else (some false)) = some r := H
                      have A19 := Aside0.mk A190
                      clear A190
                      by_cases c20 : t108.toList = a0.toList
                      · rw [if_pos c20] at H
                        have c20b0 : (t108.toList == a0.toList) = true := beq_iff_eq.mpr c20
                        have c20b1 : (t108.toList != a0.toList) = false := bne_eq_false_iff_eq.mpr c20
                        clear c20
                        replace H := Option.bind_eq_some_iff.mp H
                        obtain ⟨t109, A210, H⟩ := H
                        replace H : (if t109.toList = a0.toList then ((text_Sub.f kj2 a0 (wrap64 ((ji15) + 1)) (ji15)).bind fun t110 => (if t110.toList = ([] : List UInt8) then ((caravanlaw6_awake.f kj2).bind fun t111 => (some t111)) else (some false))) else (some false)) = some r := H
                        have A21 := Aside0.mk A210
                        clear A210
                        by_cases c22 : t109.toList = a0.toList
                        · rw [if_pos c22] at H
                          have c22b0 : (t109.toList == a0.toList) = true := beq_iff_eq.mpr c22
                          have c22b1 : (t109.toList != a0.toList) = false := bne_eq_false_iff_eq.mpr c22
                          clear c22
                          replace H := Option.bind_eq_some_iff.mp H
                          obtain ⟨t110, A230, H⟩ := H
                          replace H : (if t110.toList = ([] : List UInt8) then ((caravanlaw6_awake.f kj2).bind fun t111 => (some t111)) else (some false)) = some r := H
                          have A23 := Aside0.mk A230
                          clear A230
                          by_cases c24 : t110.toList = ([] : List UInt8)
                          · rw [if_pos c24] at H
                            have c24b0 : (t110.toList == ([] : List UInt8)) = true := beq_iff_eq.mpr c24
                            have c24b1 : (t110.toList != ([] : List UInt8)) = false := bne_eq_false_iff_eq.mpr c24
                            clear c24
                            replace H := Option.bind_eq_some_iff.mp H
                            obtain ⟨t111, A250, H⟩ := H
                            replace H : (some t111) = some r := H
                            have A25 := Aside0.mk A250
                            clear A250
                            obtain rfl := Option.some.inj H
                            go_wp2_with (first | ((with_reducible refine gate_callee (f := 6) rfl ?_); refine goesL_ (some 24) rfl rfl Try.func6 (by kernel_rfl) rfl #[.string a0, .int .i64 0, .int .i64 ji15] rfl (by (try simp only [List.map_toArray, List.map_cons, List.map_nil]); first | done | (simp only [hji15]; rfl) | rfl | (simp only [List.length_drop, List.length_take]; rfl)) ?_; (with_reducible refine (text_Sub.calls kj2 a0 0 ji15 t105 _ A9.out).mono ?_); rintro e w26 ⟨rfl, hb⟩; refine ⟨_, rfl, ?_⟩; have n0_ := Aside0.mk (below_step (by repeat (first | (with_reducible first | exact HB.out | apply below_alloc | apply pw_below_drewN | apply below_drew1) | exact HB.out)) hb); clear HB; have HB := n0_; clear n0_; (try clear hb); (try clear hb2); (try clear hk); (try clear hi)) | ((with_reducible refine gate_callee (f := 6) rfl ?_); refine goesL_ (some 28) rfl rfl Try.func6 (by kernel_rfl) rfl #[.string a0, .int .i64 (wrap64 ((ji15) + 1)), .int .i64 (-1)] rfl (by (try simp only [List.map_toArray, List.map_cons, List.map_nil]); first | done | (simp only [hji15]; rfl) | rfl | (simp only [List.length_drop, List.length_take]; rfl)) ?_; (with_reducible refine (text_Sub.calls kj2 a0 (wrap64 ((ji15) + 1)) (-1) t106 _ A10.out).mono ?_); rintro e w27 ⟨rfl, hb⟩; refine ⟨_, rfl, ?_⟩; have n0_ := Aside0.mk (below_step (by repeat (first | (with_reducible first | exact HB.out | apply below_alloc | apply pw_below_drewN | apply below_drew1) | exact HB.out)) hb); clear HB; have HB := n0_; clear n0_; (try clear hb); (try clear hb2); (try clear hk); (try clear hi)) | ((with_reducible refine gate_callee (f := 6) rfl ?_); refine goesL_ (some 34) rfl rfl Try.func6 (by kernel_rfl) rfl #[.string a0, .int .i64 (wrap64 ((ji15) - (a0.size : Int))), .int .i64 (-1)] rfl (by (try simp only [List.map_toArray, List.map_cons, List.map_nil]); first | done | (simp only [hji15]; rfl) | rfl | (simp only [List.length_drop, List.length_take]; rfl)) ?_; (with_reducible refine (text_Sub.calls kj2 a0 (wrap64 ((ji15) - (a0.size : Int))) (-1) t107 _ A11.out).mono ?_); rintro e w28 ⟨rfl, hb⟩; refine ⟨_, rfl, ?_⟩; have n0_ := Aside0.mk (below_step (by repeat (first | (with_reducible first | exact HB.out | apply below_alloc | apply pw_below_drewN | apply below_drew1) | exact HB.out)) hb); clear HB; have HB := n0_; clear n0_; (try clear hb); (try clear hb2); (try clear hk); (try clear hi)) | (go_at_call 6; (with_reducible refine (text_Sub.calls kj2 a0 0 (-1) t108 _ A19.out).mono ?_); rintro e w29 ⟨rfl, hb⟩; have n0_ := Aside0.mk (below_step (by repeat (first | (with_reducible first | exact HB.out | apply below_alloc | apply pw_below_drewN | apply below_drew1) | exact HB.out)) hb); clear HB; have HB := n0_; clear n0_; (try clear hb); (try clear hb2); (try clear hk); (try clear hi)) | (go_at_call 6; (with_reducible refine (text_Sub.calls kj2 a0 (-1000) 1000 t109 _ A21.out).mono ?_); rintro e w30 ⟨rfl, hb⟩; have n0_ := Aside0.mk (below_step (by repeat (first | (with_reducible first | exact HB.out | apply below_alloc | apply pw_below_drewN | apply below_drew1) | exact HB.out)) hb); clear HB; have HB := n0_; clear n0_; (try clear hb); (try clear hb2); (try clear hk); (try clear hi)) | (go_at_call 6; (with_reducible refine (text_Sub.calls kj2 a0 (wrap64 ((ji15) + 1)) ji15 t110 _ A23.out).mono ?_); rintro e w31 ⟨rfl, hb⟩; have n0_ := Aside0.mk (below_step (by repeat (first | (with_reducible first | exact HB.out | apply below_alloc | apply pw_below_drewN | apply below_drew1) | exact HB.out)) hb); clear HB; have HB := n0_; clear n0_; (try clear hb); (try clear hb2); (try clear hk); (try clear hi)) | (go_at_call 5; (with_reducible refine (caravanlaw6_awake.calls kj2  t111 _ A25.out).mono ?_); rintro e w32 ⟨rfl, hb⟩; have n0_ := Aside0.mk (below_step (by repeat (first | (with_reducible first | exact HB.out | apply below_alloc | apply pw_below_drewN | apply below_drew1) | exact HB.out)) hb); clear HB; have HB := n0_; clear n0_; (try clear hb); (try clear hb2); (try clear hk); (try clear hi)))
                            go_ret
                            exact ⟨by first | rfl | (simp [errW_none, errW_some] <;> rfl) | (simp only [← hji15]; first | rfl | (simp [errW_none, errW_some] <;> rfl)) | (simp [*, errW_none, errW_some] <;> rfl), by repeat (first | (with_reducible first | exact HB.out | apply below_alloc | apply pw_below_drewN | apply below_drew1) | exact HB.out)⟩
                          · rw [if_neg c24] at H
                            have c24b0 : (t110.toList == ([] : List UInt8)) = false := beq_eq_false_iff_ne.mpr c24
                            have c24b1 : (t110.toList != ([] : List UInt8)) = true := bne_iff_ne.mpr c24
                            obtain rfl := Option.some.inj H
                            go_wp2_with (first | ((with_reducible refine gate_callee (f := 6) rfl ?_); refine goesL_ (some 24) rfl rfl Try.func6 (by kernel_rfl) rfl #[.string a0, .int .i64 0, .int .i64 ji15] rfl (by (try simp only [List.map_toArray, List.map_cons, List.map_nil]); first | done | (simp only [hji15]; rfl) | rfl | (simp only [List.length_drop, List.length_take]; rfl)) ?_; (with_reducible refine (text_Sub.calls kj2 a0 0 ji15 t105 _ A9.out).mono ?_); rintro e w33 ⟨rfl, hb⟩; refine ⟨_, rfl, ?_⟩; have n0_ := Aside0.mk (below_step (by repeat (first | (with_reducible first | exact HB.out | apply below_alloc | apply pw_below_drewN | apply below_drew1) | exact HB.out)) hb); clear HB; have HB := n0_; clear n0_; (try clear hb); (try clear hb2); (try clear hk); (try clear hi)) | ((with_reducible refine gate_callee (f := 6) rfl ?_); refine goesL_ (some 28) rfl rfl Try.func6 (by kernel_rfl) rfl #[.string a0, .int .i64 (wrap64 ((ji15) + 1)), .int .i64 (-1)] rfl (by (try simp only [List.map_toArray, List.map_cons, List.map_nil]); first | done | (simp only [hji15]; rfl) | rfl | (simp only [List.length_drop, List.length_take]; rfl)) ?_; (with_reducible refine (text_Sub.calls kj2 a0 (wrap64 ((ji15) + 1)) (-1) t106 _ A10.out).mono ?_); rintro e w34 ⟨rfl, hb⟩; refine ⟨_, rfl, ?_⟩; have n0_ := Aside0.mk (below_step (by repeat (first | (with_reducible first | exact HB.out | apply below_alloc | apply pw_below_drewN | apply below_drew1) | exact HB.out)) hb); clear HB; have HB := n0_; clear n0_; (try clear hb); (try clear hb2); (try clear hk); (try clear hi)) | ((with_reducible refine gate_callee (f := 6) rfl ?_); refine goesL_ (some 34) rfl rfl Try.func6 (by kernel_rfl) rfl #[.string a0, .int .i64 (wrap64 ((ji15) - (a0.size : Int))), .int .i64 (-1)] rfl (by (try simp only [List.map_toArray, List.map_cons, List.map_nil]); first | done | (simp only [hji15]; rfl) | rfl | (simp only [List.length_drop, List.length_take]; rfl)) ?_; (with_reducible refine (text_Sub.calls kj2 a0 (wrap64 ((ji15) - (a0.size : Int))) (-1) t107 _ A11.out).mono ?_); rintro e w35 ⟨rfl, hb⟩; refine ⟨_, rfl, ?_⟩; have n0_ := Aside0.mk (below_step (by repeat (first | (with_reducible first | exact HB.out | apply below_alloc | apply pw_below_drewN | apply below_drew1) | exact HB.out)) hb); clear HB; have HB := n0_; clear n0_; (try clear hb); (try clear hb2); (try clear hk); (try clear hi)) | (go_at_call 6; (with_reducible refine (text_Sub.calls kj2 a0 0 (-1) t108 _ A19.out).mono ?_); rintro e w36 ⟨rfl, hb⟩; have n0_ := Aside0.mk (below_step (by repeat (first | (with_reducible first | exact HB.out | apply below_alloc | apply pw_below_drewN | apply below_drew1) | exact HB.out)) hb); clear HB; have HB := n0_; clear n0_; (try clear hb); (try clear hb2); (try clear hk); (try clear hi)) | (go_at_call 6; (with_reducible refine (text_Sub.calls kj2 a0 (-1000) 1000 t109 _ A21.out).mono ?_); rintro e w37 ⟨rfl, hb⟩; have n0_ := Aside0.mk (below_step (by repeat (first | (with_reducible first | exact HB.out | apply below_alloc | apply pw_below_drewN | apply below_drew1) | exact HB.out)) hb); clear HB; have HB := n0_; clear n0_; (try clear hb); (try clear hb2); (try clear hk); (try clear hi)) | (go_at_call 6; (with_reducible refine (text_Sub.calls kj2 a0 (wrap64 ((ji15) + 1)) ji15 t110 _ A23.out).mono ?_); rintro e w38 ⟨rfl, hb⟩; have n0_ := Aside0.mk (below_step (by repeat (first | (with_reducible first | exact HB.out | apply below_alloc | apply pw_below_drewN | apply below_drew1) | exact HB.out)) hb); clear HB; have HB := n0_; clear n0_; (try clear hb); (try clear hb2); (try clear hk); (try clear hi)))
                            go_ret
                            exact ⟨by first | rfl | (simp [errW_none, errW_some] <;> rfl) | (simp only [← hji15]; first | rfl | (simp [errW_none, errW_some] <;> rfl)) | (simp [*, errW_none, errW_some] <;> rfl), by repeat (first | (with_reducible first | exact HB.out | apply below_alloc | apply pw_below_drewN | apply below_drew1) | exact HB.out)⟩
                        · rw [if_neg c22] at H
                          have c22b0 : (t109.toList == a0.toList) = false := beq_eq_false_iff_ne.mpr c22
                          have c22b1 : (t109.toList != a0.toList) = true := bne_iff_ne.mpr c22
                          obtain rfl := Option.some.inj H
                          go_wp2_with (first | ((with_reducible refine gate_callee (f := 6) rfl ?_); refine goesL_ (some 24) rfl rfl Try.func6 (by kernel_rfl) rfl #[.string a0, .int .i64 0, .int .i64 ji15] rfl (by (try simp only [List.map_toArray, List.map_cons, List.map_nil]); first | done | (simp only [hji15]; rfl) | rfl | (simp only [List.length_drop, List.length_take]; rfl)) ?_; (with_reducible refine (text_Sub.calls kj2 a0 0 ji15 t105 _ A9.out).mono ?_); rintro e w39 ⟨rfl, hb⟩; refine ⟨_, rfl, ?_⟩; have n0_ := Aside0.mk (below_step (by repeat (first | (with_reducible first | exact HB.out | apply below_alloc | apply pw_below_drewN | apply below_drew1) | exact HB.out)) hb); clear HB; have HB := n0_; clear n0_; (try clear hb); (try clear hb2); (try clear hk); (try clear hi)) | ((with_reducible refine gate_callee (f := 6) rfl ?_); refine goesL_ (some 28) rfl rfl Try.func6 (by kernel_rfl) rfl #[.string a0, .int .i64 (wrap64 ((ji15) + 1)), .int .i64 (-1)] rfl (by (try simp only [List.map_toArray, List.map_cons, List.map_nil]); first | done | (simp only [hji15]; rfl) | rfl | (simp only [List.length_drop, List.length_take]; rfl)) ?_; (with_reducible refine (text_Sub.calls kj2 a0 (wrap64 ((ji15) + 1)) (-1) t106 _ A10.out).mono ?_); rintro e w40 ⟨rfl, hb⟩; refine ⟨_, rfl, ?_⟩; have n0_ := Aside0.mk (below_step (by repeat (first | (with_reducible first | exact HB.out | apply below_alloc | apply pw_below_drewN | apply below_drew1) | exact HB.out)) hb); clear HB; have HB := n0_; clear n0_; (try clear hb); (try clear hb2); (try clear hk); (try clear hi)) | ((with_reducible refine gate_callee (f := 6) rfl ?_); refine goesL_ (some 34) rfl rfl Try.func6 (by kernel_rfl) rfl #[.string a0, .int .i64 (wrap64 ((ji15) - (a0.size : Int))), .int .i64 (-1)] rfl (by (try simp only [List.map_toArray, List.map_cons, List.map_nil]); first | done | (simp only [hji15]; rfl) | rfl | (simp only [List.length_drop, List.length_take]; rfl)) ?_; (with_reducible refine (text_Sub.calls kj2 a0 (wrap64 ((ji15) - (a0.size : Int))) (-1) t107 _ A11.out).mono ?_); rintro e w41 ⟨rfl, hb⟩; refine ⟨_, rfl, ?_⟩; have n0_ := Aside0.mk (below_step (by repeat (first | (with_reducible first | exact HB.out | apply below_alloc | apply pw_below_drewN | apply below_drew1) | exact HB.out)) hb); clear HB; have HB := n0_; clear n0_; (try clear hb); (try clear hb2); (try clear hk); (try clear hi)) | (go_at_call 6; (with_reducible refine (text_Sub.calls kj2 a0 0 (-1) t108 _ A19.out).mono ?_); rintro e w42 ⟨rfl, hb⟩; have n0_ := Aside0.mk (below_step (by repeat (first | (with_reducible first | exact HB.out | apply below_alloc | apply pw_below_drewN | apply below_drew1) | exact HB.out)) hb); clear HB; have HB := n0_; clear n0_; (try clear hb); (try clear hb2); (try clear hk); (try clear hi)) | (go_at_call 6; (with_reducible refine (text_Sub.calls kj2 a0 (-1000) 1000 t109 _ A21.out).mono ?_); rintro e w43 ⟨rfl, hb⟩; have n0_ := Aside0.mk (below_step (by repeat (first | (with_reducible first | exact HB.out | apply below_alloc | apply pw_below_drewN | apply below_drew1) | exact HB.out)) hb); clear HB; have HB := n0_; clear n0_; (try clear hb); (try clear hb2); (try clear hk); (try clear hi)))
                          go_ret
                          exact ⟨by first | rfl | (simp [errW_none, errW_some] <;> rfl) | (simp only [← hji15]; first | rfl | (simp [errW_none, errW_some] <;> rfl)) | (simp [*, errW_none, errW_some] <;> rfl), by repeat (first | (with_reducible first | exact HB.out | apply below_alloc | apply pw_below_drewN | apply below_drew1) | exact HB.out)⟩
                      · rw [if_neg c20] at H
                        have c20b0 : (t108.toList == a0.toList) = false := beq_eq_false_iff_ne.mpr c20
                        have c20b1 : (t108.toList != a0.toList) = true := bne_iff_ne.mpr c20
                        obtain rfl := Option.some.inj H
                        go_wp2_with (first | ((with_reducible refine gate_callee (f := 6) rfl ?_); refine goesL_ (some 24) rfl rfl Try.func6 (by kernel_rfl) rfl #[.string a0, .int .i64 0, .int .i64 ji15] rfl (by (try simp only [List.map_toArray, List.map_cons, List.map_nil]); first | done | (simp only [hji15]; rfl) | rfl | (simp only [List.length_drop, List.length_take]; rfl)) ?_; (with_reducible refine (text_Sub.calls kj2 a0 0 ji15 t105 _ A9.out).mono ?_); rintro e w44 ⟨rfl, hb⟩; refine ⟨_, rfl, ?_⟩; have n0_ := Aside0.mk (below_step (by repeat (first | (with_reducible first | exact HB.out | apply below_alloc | apply pw_below_drewN | apply below_drew1) | exact HB.out)) hb); clear HB; have HB := n0_; clear n0_; (try clear hb); (try clear hb2); (try clear hk); (try clear hi)) | ((with_reducible refine gate_callee (f := 6) rfl ?_); refine goesL_ (some 28) rfl rfl Try.func6 (by kernel_rfl) rfl #[.string a0, .int .i64 (wrap64 ((ji15) + 1)), .int .i64 (-1)] rfl (by (try simp only [List.map_toArray, List.map_cons, List.map_nil]); first | done | (simp only [hji15]; rfl) | rfl | (simp only [List.length_drop, List.length_take]; rfl)) ?_; (with_reducible refine (text_Sub.calls kj2 a0 (wrap64 ((ji15) + 1)) (-1) t106 _ A10.out).mono ?_); rintro e w45 ⟨rfl, hb⟩; refine ⟨_, rfl, ?_⟩; have n0_ := Aside0.mk (below_step (by repeat (first | (with_reducible first | exact HB.out | apply below_alloc | apply pw_below_drewN | apply below_drew1) | exact HB.out)) hb); clear HB; have HB := n0_; clear n0_; (try clear hb); (try clear hb2); (try clear hk); (try clear hi)) | ((with_reducible refine gate_callee (f := 6) rfl ?_); refine goesL_ (some 34) rfl rfl Try.func6 (by kernel_rfl) rfl #[.string a0, .int .i64 (wrap64 ((ji15) - (a0.size : Int))), .int .i64 (-1)] rfl (by (try simp only [List.map_toArray, List.map_cons, List.map_nil]); first | done | (simp only [hji15]; rfl) | rfl | (simp only [List.length_drop, List.length_take]; rfl)) ?_; (with_reducible refine (text_Sub.calls kj2 a0 (wrap64 ((ji15) - (a0.size : Int))) (-1) t107 _ A11.out).mono ?_); rintro e w46 ⟨rfl, hb⟩; refine ⟨_, rfl, ?_⟩; have n0_ := Aside0.mk (below_step (by repeat (first | (with_reducible first | exact HB.out | apply below_alloc | apply pw_below_drewN | apply below_drew1) | exact HB.out)) hb); clear HB; have HB := n0_; clear n0_; (try clear hb); (try clear hb2); (try clear hk); (try clear hi)) | (go_at_call 6; (with_reducible refine (text_Sub.calls kj2 a0 0 (-1) t108 _ A19.out).mono ?_); rintro e w47 ⟨rfl, hb⟩; have n0_ := Aside0.mk (below_step (by repeat (first | (with_reducible first | exact HB.out | apply below_alloc | apply pw_below_drewN | apply below_drew1) | exact HB.out)) hb); clear HB; have HB := n0_; clear n0_; (try clear hb); (try clear hb2); (try clear hk); (try clear hi)))
                        go_ret
                        exact ⟨by first | rfl | (simp [errW_none, errW_some] <;> rfl) | (simp only [← hji15]; first | rfl | (simp [errW_none, errW_some] <;> rfl)) | (simp [*, errW_none, errW_some] <;> rfl), by repeat (first | (with_reducible first | exact HB.out | apply below_alloc | apply pw_below_drewN | apply below_drew1) | exact HB.out)⟩
                    · rw [if_neg c18] at H
                      have c18b0 : (t107.toList == (a0.extract ((ji15) : Int).toNat a0.size).toList) = false := beq_eq_false_iff_ne.mpr c18
                      have c18b1 : (t107.toList != (a0.extract ((ji15) : Int).toNat a0.size).toList) = true := bne_iff_ne.mpr c18
                      obtain rfl := Option.some.inj H
                      go_wp2_with (first | ((with_reducible refine gate_callee (f := 6) rfl ?_); refine goesL_ (some 24) rfl rfl Try.func6 (by kernel_rfl) rfl #[.string a0, .int .i64 0, .int .i64 ji15] rfl (by (try simp only [List.map_toArray, List.map_cons, List.map_nil]); first | done | (simp only [hji15]; rfl) | rfl | (simp only [List.length_drop, List.length_take]; rfl)) ?_; (with_reducible refine (text_Sub.calls kj2 a0 0 ji15 t105 _ A9.out).mono ?_); rintro e w48 ⟨rfl, hb⟩; refine ⟨_, rfl, ?_⟩; have n0_ := Aside0.mk (below_step (by repeat (first | (with_reducible first | exact HB.out | apply below_alloc | apply pw_below_drewN | apply below_drew1) | exact HB.out)) hb); clear HB; have HB := n0_; clear n0_; (try clear hb); (try clear hb2); (try clear hk); (try clear hi)) | ((with_reducible refine gate_callee (f := 6) rfl ?_); refine goesL_ (some 28) rfl rfl Try.func6 (by kernel_rfl) rfl #[.string a0, .int .i64 (wrap64 ((ji15) + 1)), .int .i64 (-1)] rfl (by (try simp only [List.map_toArray, List.map_cons, List.map_nil]); first | done | (simp only [hji15]; rfl) | rfl | (simp only [List.length_drop, List.length_take]; rfl)) ?_; (with_reducible refine (text_Sub.calls kj2 a0 (wrap64 ((ji15) + 1)) (-1) t106 _ A10.out).mono ?_); rintro e w49 ⟨rfl, hb⟩; refine ⟨_, rfl, ?_⟩; have n0_ := Aside0.mk (below_step (by repeat (first | (with_reducible first | exact HB.out | apply below_alloc | apply pw_below_drewN | apply below_drew1) | exact HB.out)) hb); clear HB; have HB := n0_; clear n0_; (try clear hb); (try clear hb2); (try clear hk); (try clear hi)) | ((with_reducible refine gate_callee (f := 6) rfl ?_); refine goesL_ (some 34) rfl rfl Try.func6 (by kernel_rfl) rfl #[.string a0, .int .i64 (wrap64 ((ji15) - (a0.size : Int))), .int .i64 (-1)] rfl (by (try simp only [List.map_toArray, List.map_cons, List.map_nil]); first | done | (simp only [hji15]; rfl) | rfl | (simp only [List.length_drop, List.length_take]; rfl)) ?_; (with_reducible refine (text_Sub.calls kj2 a0 (wrap64 ((ji15) - (a0.size : Int))) (-1) t107 _ A11.out).mono ?_); rintro e w50 ⟨rfl, hb⟩; refine ⟨_, rfl, ?_⟩; have n0_ := Aside0.mk (below_step (by repeat (first | (with_reducible first | exact HB.out | apply below_alloc | apply pw_below_drewN | apply below_drew1) | exact HB.out)) hb); clear HB; have HB := n0_; clear n0_; (try clear hb); (try clear hb2); (try clear hk); (try clear hi)))
                      go_ret
                      exact ⟨by first | rfl | (simp [errW_none, errW_some] <;> rfl) | (simp only [← hji15]; first | rfl | (simp [errW_none, errW_some] <;> rfl)) | (simp [*, errW_none, errW_some] <;> rfl), by repeat (first | (with_reducible first | exact HB.out | apply below_alloc | apply pw_below_drewN | apply below_drew1) | exact HB.out)⟩
                  · rw [if_neg c17] at H
                    exact absurd H (by simp)
                · rw [if_neg c16] at H
                  exact absurd H (by simp)
              · rw [if_neg c14] at H
                have c14b0 : ((t105.size : Int) == (wrap64 ((Int.tmod (wrap64 (a1)) (a0.size : Int)) + 1))) = false := beq_eq_false_iff_ne.mpr c14
                have c14b1 : ((t105.size : Int) != (wrap64 ((Int.tmod (wrap64 (a1)) (a0.size : Int)) + 1))) = true := bne_iff_ne.mpr c14
                obtain rfl := Option.some.inj H
                go_wp2_with (first | ((with_reducible refine gate_callee (f := 6) rfl ?_); refine goesL_ (some 24) rfl rfl Try.func6 (by kernel_rfl) rfl #[.string a0, .int .i64 0, .int .i64 (Int.tmod (wrap64 (a1)) (a0.size : Int))] rfl (by (try simp only [List.map_toArray, List.map_cons, List.map_nil]); first | done | rfl | (simp only [List.length_drop, List.length_take]; rfl)) ?_; (with_reducible refine (text_Sub.calls kj2 a0 0 (Int.tmod (wrap64 (a1)) (a0.size : Int)) t105 _ A9.out).mono ?_); rintro e w51 ⟨rfl, hb⟩; refine ⟨_, rfl, ?_⟩; have n0_ := Aside0.mk (below_step (by repeat (first | (with_reducible first | exact HB.out | apply below_alloc | apply pw_below_drewN | apply below_drew1) | exact HB.out)) hb); clear HB; have HB := n0_; clear n0_; (try clear hb); (try clear hb2); (try clear hk); (try clear hi)) | ((with_reducible refine gate_callee (f := 6) rfl ?_); refine goesL_ (some 28) rfl rfl Try.func6 (by kernel_rfl) rfl #[.string a0, .int .i64 (wrap64 ((Int.tmod (wrap64 (a1)) (a0.size : Int)) + 1)), .int .i64 (-1)] rfl (by (try simp only [List.map_toArray, List.map_cons, List.map_nil]); first | done | rfl | (simp only [List.length_drop, List.length_take]; rfl)) ?_; (with_reducible refine (text_Sub.calls kj2 a0 (wrap64 ((Int.tmod (wrap64 (a1)) (a0.size : Int)) + 1)) (-1) t106 _ A10.out).mono ?_); rintro e w52 ⟨rfl, hb⟩; refine ⟨_, rfl, ?_⟩; have n0_ := Aside0.mk (below_step (by repeat (first | (with_reducible first | exact HB.out | apply below_alloc | apply pw_below_drewN | apply below_drew1) | exact HB.out)) hb); clear HB; have HB := n0_; clear n0_; (try clear hb); (try clear hb2); (try clear hk); (try clear hi)) | ((with_reducible refine gate_callee (f := 6) rfl ?_); refine goesL_ (some 34) rfl rfl Try.func6 (by kernel_rfl) rfl #[.string a0, .int .i64 (wrap64 ((Int.tmod (wrap64 (a1)) (a0.size : Int)) - (a0.size : Int))), .int .i64 (-1)] rfl (by (try simp only [List.map_toArray, List.map_cons, List.map_nil]); first | done | rfl | (simp only [List.length_drop, List.length_take]; rfl)) ?_; (with_reducible refine (text_Sub.calls kj2 a0 (wrap64 ((Int.tmod (wrap64 (a1)) (a0.size : Int)) - (a0.size : Int))) (-1) t107 _ A11.out).mono ?_); rintro e w53 ⟨rfl, hb⟩; refine ⟨_, rfl, ?_⟩; have n0_ := Aside0.mk (below_step (by repeat (first | (with_reducible first | exact HB.out | apply below_alloc | apply pw_below_drewN | apply below_drew1) | exact HB.out)) hb); clear HB; have HB := n0_; clear n0_; (try clear hb); (try clear hb2); (try clear hk); (try clear hi)))
                go_ret
                exact ⟨by first | rfl | (simp [errW_none, errW_some] <;> rfl) | (simp [*, errW_none, errW_some] <;> rfl), by repeat (first | (with_reducible first | exact HB.out | apply below_alloc | apply pw_below_drewN | apply below_drew1) | exact HB.out)⟩
            · rw [if_neg c13] at H
              have c13b0 : ((t105 ++ t106).toList == a0.toList) = false := beq_eq_false_iff_ne.mpr c13
              have c13b1 : ((t105 ++ t106).toList != a0.toList) = true := bne_iff_ne.mpr c13
              obtain rfl := Option.some.inj H
              go_wp2_with (first | ((with_reducible refine gate_callee (f := 6) rfl ?_); refine goesL_ (some 24) rfl rfl Try.func6 (by kernel_rfl) rfl #[.string a0, .int .i64 0, .int .i64 (Int.tmod (wrap64 (a1)) (a0.size : Int))] rfl (by (try simp only [List.map_toArray, List.map_cons, List.map_nil]); first | done | rfl | (simp only [List.length_drop, List.length_take]; rfl)) ?_; (with_reducible refine (text_Sub.calls kj2 a0 0 (Int.tmod (wrap64 (a1)) (a0.size : Int)) t105 _ A9.out).mono ?_); rintro e w54 ⟨rfl, hb⟩; refine ⟨_, rfl, ?_⟩; have n0_ := Aside0.mk (below_step (by repeat (first | (with_reducible first | exact HB.out | apply below_alloc | apply pw_below_drewN | apply below_drew1) | exact HB.out)) hb); clear HB; have HB := n0_; clear n0_; (try clear hb); (try clear hb2); (try clear hk); (try clear hi)) | ((with_reducible refine gate_callee (f := 6) rfl ?_); refine goesL_ (some 28) rfl rfl Try.func6 (by kernel_rfl) rfl #[.string a0, .int .i64 (wrap64 ((Int.tmod (wrap64 (a1)) (a0.size : Int)) + 1)), .int .i64 (-1)] rfl (by (try simp only [List.map_toArray, List.map_cons, List.map_nil]); first | done | rfl | (simp only [List.length_drop, List.length_take]; rfl)) ?_; (with_reducible refine (text_Sub.calls kj2 a0 (wrap64 ((Int.tmod (wrap64 (a1)) (a0.size : Int)) + 1)) (-1) t106 _ A10.out).mono ?_); rintro e w55 ⟨rfl, hb⟩; refine ⟨_, rfl, ?_⟩; have n0_ := Aside0.mk (below_step (by repeat (first | (with_reducible first | exact HB.out | apply below_alloc | apply pw_below_drewN | apply below_drew1) | exact HB.out)) hb); clear HB; have HB := n0_; clear n0_; (try clear hb); (try clear hb2); (try clear hk); (try clear hi)) | ((with_reducible refine gate_callee (f := 6) rfl ?_); refine goesL_ (some 34) rfl rfl Try.func6 (by kernel_rfl) rfl #[.string a0, .int .i64 (wrap64 ((Int.tmod (wrap64 (a1)) (a0.size : Int)) - (a0.size : Int))), .int .i64 (-1)] rfl (by (try simp only [List.map_toArray, List.map_cons, List.map_nil]); first | done | rfl | (simp only [List.length_drop, List.length_take]; rfl)) ?_; (with_reducible refine (text_Sub.calls kj2 a0 (wrap64 ((Int.tmod (wrap64 (a1)) (a0.size : Int)) - (a0.size : Int))) (-1) t107 _ A11.out).mono ?_); rintro e w56 ⟨rfl, hb⟩; refine ⟨_, rfl, ?_⟩; have n0_ := Aside0.mk (below_step (by repeat (first | (with_reducible first | exact HB.out | apply below_alloc | apply pw_below_drewN | apply below_drew1) | exact HB.out)) hb); clear HB; have HB := n0_; clear n0_; (try clear hb); (try clear hb2); (try clear hk); (try clear hi)))
              go_ret
              exact ⟨by first | rfl | (simp [errW_none, errW_some] <;> rfl) | (simp [*, errW_none, errW_some] <;> rfl), by repeat (first | (with_reducible first | exact HB.out | apply below_alloc | apply pw_below_drewN | apply below_drew1) | exact HB.out)⟩
          · rw [if_neg c12] at H
            exact absurd H (by simp)

/-- THE ONE PURE STATEMENT of caravanlaw6_TextParts: yours. -/
def caravanlaw6_TextParts.Pure : Prop := ∀ (a0 : ByteArray) (a1 : Int), a0.size ≤ 140737488351232 → (Lit.int .u16 a1).wf = true → ∃ k, caravanlaw6_TextParts.f k a0 a1 = some true
theorem caravanlaw6_TextParts.walk (P : caravanlaw6_TextParts.Pure) (a0 : ByteArray) (a1 : Int) (w : World) (w0 : a0.size ≤ 140737488351232) (w1 : (Lit.int .u16 a1).wf = true) :
    Calls Try.prog 3 #[.string a0, .int .u16 a1] w fun e w' => e = .returned (.bool true) ∧ Below w.heap.size w w' := by
  obtain ⟨k, h⟩ := P a0 a1 w0 w1
  refine (caravanlaw6_TextParts.calls k a0 a1 true w h).mono ?_
  rintro e w' ⟨rfl, hd⟩
  exact ⟨rfl, hd⟩

end Go.Proofs.Ytfmhhahhomnkbaa.PTextParts
