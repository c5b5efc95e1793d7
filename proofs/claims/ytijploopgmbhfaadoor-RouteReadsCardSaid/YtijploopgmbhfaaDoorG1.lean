/- What functions of the translation come to, and their calls' proofs; by a program of mine over the kit's print, with contracts given by hand beside. Conditions: where a plain function tells none, nothing is said. -/
import Derived.Test.YtijploopgmbhfaaDoorG0
namespace Go.Proofs.YtijploopgmbhfaaDoor.G
open Go.RowKit Go.Proofs.YtijploopgmbhfaaDoorW.PrintWords Go.Proofs.YtijploopgmbhfaaDoorW.PrintLast Go.Proofs.YtijploopgmbhfaaDoorW.PrintMore
attribute [local go_sem] max2_int min2_int max_two min_two max_three min_three max_four min_four   -- for this text's walks alone
set_option linter.unusedVariables false
set_option linter.unusedSimpArgs false

/-! ### caravanref1_Digits: function 21 -/
mutual
def caravanref1_Digits.j0 : Nat → Int → Int → ByteArray → Option (ByteArray)
 | 0, _, _, _ => none
 | k + 1, x0, x3, x4 => caravanref1_Digits.l0 k x0 x3 x4
def caravanref1_Digits.l0 : Nat → Int → Int → ByteArray → Option (ByteArray)
 | 0, _, _, _ => none
 | k + 1, x0, x3, x4 => if x3 ≥ 10 then ((some (([(IntKind.u64.wrap (48 + (Int.tmod x3 10))) % 256] : List Int) : List Int)).bind fun y101 => (if (strOfNums y101).size + x4.size ≤ 9223372036854775807 then (caravanref1_Digits.l0 k x0 (IntKind.u64.wrap (Int.tdiv x3 10)) ((strOfNums y101) ++ x4)) else (none))) else ((some (([(IntKind.u64.wrap (48 + x3)) % 256] : List Int) : List Int)).bind fun y104 => (if (strOfNums y104).size + x4.size ≤ 9223372036854775807 then (if x0 < 0 then (if 1 + ((strOfNums y104) ++ x4).size ≤ 9223372036854775807 then (some ((⟨#[45]⟩ : ByteArray) ++ ((strOfNums y104) ++ x4))) else (none)) else (some ((strOfNums y104) ++ x4))) else (none)))
end
def caravanref1_Digits.f (k : Nat) (a0 : Int) : Option (ByteArray) := if a0 < 0 then (caravanref1_Digits.j0 k a0 (IntKind.u64.wrap (-(IntKind.u64.wrap (a0)))) (⟨#[]⟩ : ByteArray)) else (caravanref1_Digits.j0 k a0 (IntKind.u64.wrap (a0)) (⟨#[]⟩ : ByteArray))
theorem caravanref1_Digits.mono_l : ∀ k, (∀ y0 y1 y2, LeO (caravanref1_Digits.j0 k y0 y1 y2) (caravanref1_Digits.j0 (k + 1) y0 y1 y2)) ∧ (∀ y0 y1 y2, LeO (caravanref1_Digits.l0 k y0 y1 y2) (caravanref1_Digits.l0 (k + 1) y0 y1 y2))
 | 0 => ⟨fun _ _ _ r h => by simp [caravanref1_Digits.j0] at h, fun _ _ _ r h => by simp [caravanref1_Digits.l0] at h⟩
 | k + 1 => by
  obtain ⟨ih0, ih1⟩ := caravanref1_Digits.mono_l k
  refine ⟨?_, ?_⟩
  ·intro y0 y1 y2
   unfold caravanref1_Digits.j0
   repeat' first
   | (with_reducible exact ih0 _ _ _)
   | (with_reducible exact ih1 _ _ _)
   | (with_reducible exact LeO.refl _)
   | (with_reducible exact LeO.none _)
   | (with_reducible refine LeO.ite ?_ ?_)
   | (with_reducible refine LeO.bind ?_ (fun _ => ?_))
   | exact ih0 _ _ _
   | exact ih1 _ _ _
   | exact LeO.none _
   | refine LeO.ite ?_ ?_
   | refine LeO.bind ?_ (fun _ => ?_)
  ·intro y0 y1 y2
   unfold caravanref1_Digits.l0
   repeat' first
   | (with_reducible exact ih0 _ _ _)
   | (with_reducible exact ih1 _ _ _)
   | (with_reducible exact LeO.refl _)
   | (with_reducible exact LeO.none _)
   | (with_reducible refine LeO.ite ?_ ?_)
   | (with_reducible refine LeO.bind ?_ (fun _ => ?_))
   | exact ih0 _ _ _
   | exact ih1 _ _ _
   | exact LeO.none _
   | refine LeO.ite ?_ ?_
   | refine LeO.bind ?_ (fun _ => ?_)
theorem caravanref1_Digits.mono : ∀ a0 k, LeO (caravanref1_Digits.f k a0) (caravanref1_Digits.f (k + 1) a0) := by
 intro a0 k
 obtain ⟨ih0, ih1⟩ := caravanref1_Digits.mono_l k
 unfold caravanref1_Digits.f
 repeat' first
  | (with_reducible exact ih0 _ _ _)
  | (with_reducible exact ih1 _ _ _)
  | (with_reducible exact LeO.refl _)
  | (with_reducible exact LeO.none _)
  | (with_reducible refine LeO.ite ?_ ?_)
  | (with_reducible refine LeO.bind ?_ (fun _ => ?_))
  | exact ih0 _ _ _
  | exact ih1 _ _ _
  | exact LeO.none _
  | refine LeO.ite ?_ ?_
  | refine LeO.bind ?_ (fun _ => ?_)
set_option maxHeartbeats 8000000 in
set_option maxRecDepth 100000 in
theorem caravanref1_Digits.calls (k : Nat) (a0 : Int) (r : ByteArray) (w : World) (h : caravanref1_Digits.f k a0 = some r) :
 Calls Tryd.prog 21 #[.int .i64 a0] w fun e w' => e = .returned (.string r) ∧ Below w.heap.size w w' := by
 have HB := Aside0.mk (Below.refl w.heap.size w)
 have H : (if a0 < 0 then (caravanref1_Digits.j0 k a0 (IntKind.u64.wrap (-(IntKind.u64.wrap (a0)))) (⟨#[]⟩ : ByteArray)) else (caravanref1_Digits.j0 k a0 (IntKind.u64.wrap (a0)) (⟨#[]⟩ : ByteArray))) = some r := h
 clear h
 have HC2 := Aside0.mk H
 clear H
 go_enter Tryd.func21, Tryd.ntmps21
 go_upto_if 8 with (fail)
 go_cut [3] (fun v3 wc => ∃ (kq : Nat) (x3_1 : Int), v3 = .int .u64 x3_1 ∧ Aside0 (caravanref1_Digits.j0 kq a0 x3_1 (⟨#[]⟩ : ByteArray) = some r) ∧ Aside0 (kq ≤ k) ∧ Aside0 (Below w.heap.size w wc))
 case first =>
  have H := HC2.out
  clear HC2
  by_cases c3 : a0 < 0
  ·rw [if_pos c3] at H
   have c3b0 : decide (a0 < 0) = true := decide_eq_true c3
   clear c3
   (first | rw [c3b0] | (simp only [i64_w, i32_w]; rw [c3b0]) | skip)
   have H' := Aside0.mk H
   clear H
   go_wp2
   go_meet
   case rel => exact ⟨_, (IntKind.u64.wrap (-(IntKind.u64.wrap (a0)))), (by first | rfl | (simp; done) | (simp [*]; done)), H', ⟨by first | omega | exact Nat.le_refl _⟩, ⟨(qdb35_ HB.out)⟩⟩
  ·rw [if_neg c3] at H
   have c3b0 : decide (a0 < 0) = false := decide_eq_false c3
   clear c3
   (first | rw [c3b0] | (simp only [i64_w, i32_w]; rw [c3b0]) | skip)
   have H' := Aside0.mk H
   clear H
   go_wp2
   go_meet
   case rel => exact ⟨_, (IntKind.u64.wrap (a0)), (by first | rfl | (simp; done) | (simp [*]; done)), H', ⟨by first | omega | exact Nat.le_refl _⟩, ⟨(qdb35_ HB.out)⟩⟩
 case rest =>
  clear HC2
  try clear c2
  try clear p2
  try clear c3
  try clear c3b0
  obtain ⟨kq, x3_1, rfl, HA, HJ1, HB⟩ := hcut
  cases kq with
  | zero => exact absurd HA.out (by simp [caravanref1_Digits.j0])
  | succ kj1 =>
   have H := HA.out
   clear HA
   simp only [caravanref1_Digits.j0] at H
   have H' := Aside0.mk H
   clear H
   go_wp2
   go_loopg [3, 4] kj1 (fun kq v3 v4 w' => ∃ (x3_2 : Int) (x4_2 : ByteArray), v3 = .int .u64 x3_2 ∧ v4 = .string x4_2 ∧ Aside0 (caravanref1_Digits.l0 kq a0 x3_2 x4_2 = some r) ∧ Aside0 (kq ≤ kj1) ∧ Aside0 (Below w.heap.size w w'))
   case atStart => exact ⟨(x3_1), ((⟨#[]⟩ : ByteArray)), (by first | rfl | (simp; done) | (simp [*]; done)), (by first | rfl | (simp; done) | (simp [*]; done)), H', ⟨Nat.le_refl _⟩, ⟨(qdb35_ HB.out)⟩⟩
   case round =>
    clear H'
    try clear c2
    try clear p2
    try clear c3
    try clear c3b0
    try clear p2
    obtain ⟨x3_2, x4_2, rfl, rfl, HA, HK2, HB⟩ := hrel
    cases gk with
    | zero => exact absurd HA.out (by simp [caravanref1_Digits.l0])
    | succ k2 =>
     have H := HA.out
     clear HA
     simp only [caravanref1_Digits.l0] at H
     by_cases c4 : x3_2 ≥ 10
     ·rw [if_pos c4] at H
      have c4b0 : decide (10 ≤ x3_2) = true := decide_eq_true c4
      clear c4
      obtain ⟨y101, hy101⟩ : ∃ y_ : List Int, y_ = (([(IntKind.u64.wrap (48 + (Int.tmod x3_2 10))) % 256] : List Int)) := ⟨_, rfl⟩
      replace H : (if (strOfNums y101).size + x4_2.size ≤ 9223372036854775807 then (caravanref1_Digits.l0 k2 a0 (IntKind.u64.wrap (Int.tdiv x3_2 10)) ((strOfNums y101) ++ x4_2)) else (none)) = some r := by first | (rw [hy101]; with_reducible exact H) | (have H2_ := (Option.bind_some _ _).symm.trans H; rw [hy101]; with_reducible exact H2_) | (have H2_ := (Option.bind_some _ _).symm.trans H; with_reducible exact H2_) | with_reducible exact H | (rw [hy101]; exact H) | exact H
      have Ny101 := Aside0.mk hy101
      clear hy101
      by_cases c5 : (strOfNums y101).size + x4_2.size ≤ 9223372036854775807
      ·rw [if_pos c5] at H
       have c5b0 := eq_true c5
       have c5b1 : decide ((strOfNums y101).size + x4_2.size ≤ 9223372036854775807) = true := decide_eq_true c5
       try have c5b2 : (9223372036854775807 < (strOfNums y101).size + x4_2.size) = False := eq_false (Nat.not_lt.2 c5)
       have H' := Aside0.mk H
       clear H
       go_wp2_with (first | ((with_reducible refine gate_dst (N := 17) rfl ?_); refine Kd.R_lit (Kd.int .u8) _ 5 ?hg (N := 17) ?hd (xs := ([(IntKind.u64.wrap (48 + (Int.tmod x3_2 10))) % 256] : List Int)) (inner := [.int .u8 ((IntKind.u64.wrap (48 + (Int.tmod x3_2 10))) % 256)]) (ok := fun _ => True) (okp := fun _ => True) ?hr ?hp (fun _ hk => hk) trivial (Below.refl _ _) (Nat.le_refl _) (by simp) ?_; (case hd => rfl); (case hg => rfl); (case hr => first | (go_simp; done) | (go_simp; rfl)); (case hp => exact (Reps.one (show Kd.M (Kd.int .u8) _ _ _ ((IntKind.u64.wrap (48 + (Int.tmod x3_2 10))) % 256) [.int .u8 ((IntKind.u64.wrap (48 + (Int.tmod x3_2 10))) % 256)] from rfl) (Reps.none _ _))); intro v102 w6 ho7 hb hg_ hnew_; clear hg_ hnew_; (first | rw [← Ny101.out] at ho7 | (simp only [Int.reduceToNat] at ho7; rw [← Ny101.out] at ho7)); have n0_ := Aside0.mk (Kd.R_lower ho7 (below_size (qdb35_ HB.out))); have n1_ := Aside0.mk (below_step (qdb35_ HB.out) hb); clear HB; have HO103 := n0_; have HB := n1_; clear n0_ n1_; clear hb ho7; have hcv8 := own_string (P := Tryd.prog) Tryd.underlying50 Tryd.underlying5 Tryd.underlying9 (Kd.own_of_R HO103.out)))
       go_roundg k2
       case measure => have := HJ1.out; have := HK2.out; omega
       case rel => exact ⟨(IntKind.u64.wrap (Int.tdiv x3_2 10)), ((strOfNums y101) ++ x4_2), (by first | rfl | (simp; done) | (simp [*]; done)), (by first | rfl | (simp; done) | (simp [*]; done)), H', ⟨by have := HJ1.out; have := HK2.out; omega⟩, ⟨(qdb35_ HB.out)⟩⟩
      ·rw [if_neg c5] at H
       exact absurd H (by simp)
     ·rw [if_neg c4] at H
      have c4b0 : decide (10 ≤ x3_2) = false := decide_eq_false c4
      clear c4
      obtain ⟨y104, hy104⟩ : ∃ y_ : List Int, y_ = (([(IntKind.u64.wrap (48 + x3_2)) % 256] : List Int)) := ⟨_, rfl⟩
      replace H : (if (strOfNums y104).size + x4_2.size ≤ 9223372036854775807 then (if a0 < 0 then (if 1 + ((strOfNums y104) ++ x4_2).size ≤ 9223372036854775807 then (some ((⟨#[45]⟩ : ByteArray) ++ ((strOfNums y104) ++ x4_2))) else (none)) else (some ((strOfNums y104) ++ x4_2))) else (none)) = some r := by first | (rw [hy104]; with_reducible exact H) | (have H2_ := (Option.bind_some _ _).symm.trans H; rw [hy104]; with_reducible exact H2_) | (have H2_ := (Option.bind_some _ _).symm.trans H; with_reducible exact H2_) | with_reducible exact H | (rw [hy104]; exact H) | exact H
      have Ny104 := Aside0.mk hy104
      clear hy104
      by_cases c9 : (strOfNums y104).size + x4_2.size ≤ 9223372036854775807
      ·rw [if_pos c9] at H
       have c9b0 := eq_true c9
       have c9b1 : decide ((strOfNums y104).size + x4_2.size ≤ 9223372036854775807) = true := decide_eq_true c9
       try have c9b2 : (9223372036854775807 < (strOfNums y104).size + x4_2.size) = False := eq_false (Nat.not_lt.2 c9)
       by_cases c10 : a0 < 0
       ·rw [if_pos c10] at H
        have c10b0 : decide (a0 < 0) = true := decide_eq_true c10
        clear c10
        by_cases c11 : 1 + ((strOfNums y104) ++ x4_2).size ≤ 9223372036854775807
        ·rw [if_pos c11] at H
         have c11b0 := eq_true c11
         have c11b1 : decide (1 + ((strOfNums y104) ++ x4_2).size ≤ 9223372036854775807) = true := decide_eq_true c11
         try have c11b2 : (9223372036854775807 < 1 + ((strOfNums y104) ++ x4_2).size) = False := eq_false (Nat.not_lt.2 c11)
         try (have c11b3 := c11b2; simp only [ByteArray.size_append] at c11b3)
         obtain rfl := Option.some.inj H
         go_wp2_with (first | ((with_reducible refine gate_dst (N := 26) rfl ?_); refine Kd.R_lit (Kd.int .u8) _ 5 ?hg (N := 26) ?hd (xs := ([(IntKind.u64.wrap (48 + x3_2)) % 256] : List Int)) (inner := [.int .u8 ((IntKind.u64.wrap (48 + x3_2)) % 256)]) (ok := fun _ => True) (okp := fun _ => True) ?hr ?hp (fun _ hk => hk) trivial (Below.refl _ _) (Nat.le_refl _) (by simp) ?_; (case hd => rfl); (case hg => rfl); (case hr => first | (go_simp; done) | (go_simp; rfl)); (case hp => exact (Reps.one (show Kd.M (Kd.int .u8) _ _ _ ((IntKind.u64.wrap (48 + x3_2)) % 256) [.int .u8 ((IntKind.u64.wrap (48 + x3_2)) % 256)] from rfl) (Reps.none _ _))); intro v105 w12 ho13 hb hg_ hnew_; clear hg_ hnew_; (first | rw [← Ny104.out] at ho13 | (simp only [Int.reduceToNat] at ho13; rw [← Ny104.out] at ho13)); have n0_ := Aside0.mk (Kd.R_lower ho13 (below_size (qdb35_ HB.out))); have n1_ := Aside0.mk (below_step (qdb35_ HB.out) hb); clear HB; have HO106 := n0_; have HB := n1_; clear n0_ n1_; clear hb ho13; have hcv14 := own_string (P := Tryd.prog) Tryd.underlying50 Tryd.underlying5 Tryd.underlying9 (Kd.own_of_R HO106.out)))
         go_ret
         exact ⟨by first | rfl | (simp [errW_none, errW_some] <;> rfl) | (simp [*, errW_none, errW_some] <;> rfl), (qdb35_ HB.out)⟩
        ·rw [if_neg c11] at H
         exact absurd H (by simp)
       ·rw [if_neg c10] at H
        have c10b0 : decide (a0 < 0) = false := decide_eq_false c10
        clear c10
        obtain rfl := Option.some.inj H
        go_wp2_with (first | ((with_reducible refine gate_dst (N := 26) rfl ?_); refine Kd.R_lit (Kd.int .u8) _ 5 ?hg (N := 26) ?hd (xs := ([(IntKind.u64.wrap (48 + x3_2)) % 256] : List Int)) (inner := [.int .u8 ((IntKind.u64.wrap (48 + x3_2)) % 256)]) (ok := fun _ => True) (okp := fun _ => True) ?hr ?hp (fun _ hk => hk) trivial (Below.refl _ _) (Nat.le_refl _) (by simp) ?_; (case hd => rfl); (case hg => rfl); (case hr => first | (go_simp; done) | (go_simp; rfl)); (case hp => exact (Reps.one (show Kd.M (Kd.int .u8) _ _ _ ((IntKind.u64.wrap (48 + x3_2)) % 256) [.int .u8 ((IntKind.u64.wrap (48 + x3_2)) % 256)] from rfl) (Reps.none _ _))); intro v105 w15 ho16 hb hg_ hnew_; clear hg_ hnew_; (first | rw [← Ny104.out] at ho16 | (simp only [Int.reduceToNat] at ho16; rw [← Ny104.out] at ho16)); have n0_ := Aside0.mk (Kd.R_lower ho16 (below_size (qdb35_ HB.out))); have n1_ := Aside0.mk (below_step (qdb35_ HB.out) hb); clear HB; have HO106 := n0_; have HB := n1_; clear n0_ n1_; clear hb ho16; have hcv17 := own_string (P := Tryd.prog) Tryd.underlying50 Tryd.underlying5 Tryd.underlying9 (Kd.own_of_R HO106.out)))
        go_ret
        exact ⟨by first | rfl | (simp [errW_none, errW_some] <;> rfl) | (simp [*, errW_none, errW_some] <;> rfl), (qdb35_ HB.out)⟩
      ·rw [if_neg c9] at H
       exact absurd H (by simp)

/-! ### caravanref5_Number: function 37 -/
mutual
def caravanref5_Number.j0 : Nat → ByteArray → Int → Int → Int → Bool → Option (Int × Bool)
 | 0, _, _, _, _, _ => none
 | k + 1, x0, x3, x4, x5, x14 => if x14 = true then (caravanref5_Number.j1 k x0 x3 1 (IntKind.u64.wrap (x5 + 1))) else (caravanref5_Number.j1 k x0 x3 x4 x5)
def caravanref5_Number.j1 : Nat → ByteArray → Int → Int → Int → Option (Int × Bool)
 | 0, _, _, _, _ => none
 | k + 1, x0, x3, x4, x5 => caravanref5_Number.l0 k x0 x3 x4 x5 x4
def caravanref5_Number.l0 : Nat → ByteArray → Int → Int → Int → Int → Option (Int × Bool)
 | 0, _, _, _, _, _ => none
 | k + 1, x0, x3, x4, x5, x6 => if x6 < (x0.size : Int) then (if 0 ≤ x6 then (if (bt x0 x6) < 48 then (some (0, false)) else (if (bt x0 x6) > 57 then (some (0, false)) else (if x3 > (IntKind.u64.wrap (Int.tdiv (IntKind.u64.wrap (x5 - (((bt x0 x6) - 48) % 256))) 10)) then (some (0, false)) else (caravanref5_Number.l0 k x0 (IntKind.u64.wrap ((IntKind.u64.wrap (10 * x3)) + (((bt x0 x6) - 48) % 256))) x4 x5 (wrap64 (x6 + 1)))))) else (none)) else (if x4 = 1 then (if (x0.size : Int) = x4 then (some (0, false)) else ((caravanref1_Digits.f k (wrap64 (IntKind.u64.wrap (-x3)))).bind fun t108 => (if t108.toList = x0.toList then (some (wrap64 (IntKind.u64.wrap (-x3)), true)) else (some (0, false))))) else (if (x0.size : Int) = x4 then (some (0, false)) else ((caravanref1_Digits.f k (wrap64 (x3))).bind fun t109 => (if t109.toList = x0.toList then (some (wrap64 (x3), true)) else (some (0, false))))))
end
def caravanref5_Number.f (k : Nat) (a0 : ByteArray) : Option (Int × Bool) := if a0.toList = ([] : List UInt8) then (caravanref5_Number.j0 k a0 0 0 9223372036854775807 false) else (if 0 < (a0.size : Int) then (caravanref5_Number.j0 k a0 0 0 9223372036854775807 ((bt a0 0) == 45)) else (none))
theorem caravanref5_Number.mono_l : ∀ k, (∀ y0 y1 y2 y3 y4, LeO (caravanref5_Number.j0 k y0 y1 y2 y3 y4) (caravanref5_Number.j0 (k + 1) y0 y1 y2 y3 y4)) ∧ (∀ y0 y1 y2 y3, LeO (caravanref5_Number.j1 k y0 y1 y2 y3) (caravanref5_Number.j1 (k + 1) y0 y1 y2 y3)) ∧ (∀ y0 y1 y2 y3 y4, LeO (caravanref5_Number.l0 k y0 y1 y2 y3 y4) (caravanref5_Number.l0 (k + 1) y0 y1 y2 y3 y4))
 | 0 => ⟨fun _ _ _ _ _ r h => by simp [caravanref5_Number.j0] at h, fun _ _ _ _ r h => by simp [caravanref5_Number.j1] at h, fun _ _ _ _ _ r h => by simp [caravanref5_Number.l0] at h⟩
 | k + 1 => by
  obtain ⟨ih0, ih1, ih2⟩ := caravanref5_Number.mono_l k
  refine ⟨?_, ?_, ?_⟩
  ·intro y0 y1 y2 y3 y4
   unfold caravanref5_Number.j0
   repeat' first
   | (with_reducible exact ih0 _ _ _ _ _)
   | (with_reducible exact ih1 _ _ _ _)
   | (with_reducible exact ih2 _ _ _ _ _)
   | (with_reducible exact caravanref1_Digits.mono _ _)
   | (with_reducible exact LeO.refl _)
   | (with_reducible exact LeO.none _)
   | (with_reducible refine LeO.ite ?_ ?_)
   | (with_reducible refine LeO.bind ?_ (fun _ => ?_))
   | exact ih0 _ _ _ _ _
   | exact ih1 _ _ _ _
   | exact ih2 _ _ _ _ _
   | exact caravanref1_Digits.mono _ _
   | exact LeO.none _
   | refine LeO.ite ?_ ?_
   | refine LeO.bind ?_ (fun _ => ?_)
  ·intro y0 y1 y2 y3
   unfold caravanref5_Number.j1
   repeat' first
   | (with_reducible exact ih0 _ _ _ _ _)
   | (with_reducible exact ih1 _ _ _ _)
   | (with_reducible exact ih2 _ _ _ _ _)
   | (with_reducible exact caravanref1_Digits.mono _ _)
   | (with_reducible exact LeO.refl _)
   | (with_reducible exact LeO.none _)
   | (with_reducible refine LeO.ite ?_ ?_)
   | (with_reducible refine LeO.bind ?_ (fun _ => ?_))
   | exact ih0 _ _ _ _ _
   | exact ih1 _ _ _ _
   | exact ih2 _ _ _ _ _
   | exact caravanref1_Digits.mono _ _
   | exact LeO.none _
   | refine LeO.ite ?_ ?_
   | refine LeO.bind ?_ (fun _ => ?_)
  ·intro y0 y1 y2 y3 y4
   unfold caravanref5_Number.l0
   repeat' first
   | (with_reducible exact ih0 _ _ _ _ _)
   | (with_reducible exact ih1 _ _ _ _)
   | (with_reducible exact ih2 _ _ _ _ _)
   | (with_reducible exact caravanref1_Digits.mono _ _)
   | (with_reducible exact LeO.refl _)
   | (with_reducible exact LeO.none _)
   | (with_reducible refine LeO.ite ?_ ?_)
   | (with_reducible refine LeO.bind ?_ (fun _ => ?_))
   | exact ih0 _ _ _ _ _
   | exact ih1 _ _ _ _
   | exact ih2 _ _ _ _ _
   | exact caravanref1_Digits.mono _ _
   | exact LeO.none _
   | refine LeO.ite ?_ ?_
   | refine LeO.bind ?_ (fun _ => ?_)
theorem caravanref5_Number.mono : ∀ a0 k, LeO (caravanref5_Number.f k a0) (caravanref5_Number.f (k + 1) a0) := by
 intro a0 k
 obtain ⟨ih0, ih1, ih2⟩ := caravanref5_Number.mono_l k
 unfold caravanref5_Number.f
 repeat' first
  | (with_reducible exact ih0 _ _ _ _ _)
  | (with_reducible exact ih1 _ _ _ _)
  | (with_reducible exact ih2 _ _ _ _ _)
  | (with_reducible exact caravanref1_Digits.mono _ _)
  | (with_reducible exact LeO.refl _)
  | (with_reducible exact LeO.none _)
  | (with_reducible refine LeO.ite ?_ ?_)
  | (with_reducible refine LeO.bind ?_ (fun _ => ?_))
  | exact ih0 _ _ _ _ _
  | exact ih1 _ _ _ _
  | exact ih2 _ _ _ _ _
  | exact caravanref1_Digits.mono _ _
  | exact LeO.none _
  | refine LeO.ite ?_ ?_
  | refine LeO.bind ?_ (fun _ => ?_)
set_option maxHeartbeats 8000000 in
set_option maxRecDepth 100000 in
theorem caravanref5_Number.calls (k : Nat) (a0 : ByteArray) (r1 : Int) (r2 : Bool) (w : World) (h : caravanref5_Number.f k a0 = some (r1, r2)) :
 Calls Tryd.prog 37 #[.string a0] w fun e w' => e = .returned (.agg #[.int .i64 r1, .bool r2]) ∧ Below w.heap.size w w' := by
 have hu96 := Tryd.underlying96
 have HB := Aside0.mk (Below.refl w.heap.size w)
 have H : (if a0.toList = ([] : List UInt8) then (caravanref5_Number.j0 k a0 0 0 9223372036854775807 false) else (if 0 < (a0.size : Int) then (caravanref5_Number.j0 k a0 0 0 9223372036854775807 ((bt a0 0) == 45)) else (none))) = some (r1, r2) := h
 clear h
 have HC2 := Aside0.mk H
 clear H
 go_enter Tryd.func37, Tryd.ntmps37
 go_upto_region 3 with (first | ((with_reducible refine gate_dst (N := 2) rfl ?_); refine box_event ?hg (N := 2) ?hd (cs := #[.int .i64 0, .bool false]) (t := 96) ?hr ?_; (case hd => rfl); (case hg => rfl); (case hr => first | (go_simp; done) | (go_simp; rfl)); intro gb107 hg w3 hbox hb; have n0_ := Aside0.mk (below_step (qdb35_ HB.out) hb); have n1_ := Aside0.mk (hbox); have n2_ := Aside0.mk ((by rw [hg]; exact (below_size (qdb35_ HB.out)) : w.heap.size ≤ gb107)); have n3_ := Aside0.mk ((by rw [hg]; exact (below_size (qdb35_ HB.out)) : w.heap.size ≤ gb107)); clear HB; have HB := n0_; have BK107 := n1_; have GW107 := n2_; have GE107 := n3_; clear n0_ n1_ n2_ n3_; clear hb hbox hg))
 (try simp only [Act.put, List.setIfInBounds_toArray, List.set_cons_zero, List.set_cons_succ])
 go_cut [14] (fun v14 wc => ∃ (kq : Nat) (x14_1 : Bool), v14 = .bool x14_1 ∧ Aside0 (caravanref5_Number.j0 kq a0 0 0 9223372036854775807 x14_1 = some (r1, r2)) ∧ Aside0 (kq ≤ k) ∧ Aside0 (wc.heap[gb107]? = some (.cells #[.int .i64 0, .bool false] 96 (0, 0))) ∧ Aside0 (Below w.heap.size w wc))
 case first =>
  have H := HC2.out
  clear HC2
  by_cases c4 : a0.toList = ([] : List UInt8)
  ·rw [if_pos c4] at H
   have c4b0 : (a0.toList == ([] : List UInt8)) = true := beq_iff_eq.mpr c4
   have c4b1 : (a0.toList != ([] : List UInt8)) = false := bne_eq_false_iff_eq.mpr c4
   clear c4
   (first | rw [c4b0] | (simp only [i64_w, i32_w]; rw [c4b0]) | skip)
   have H' := Aside0.mk H
   clear H
   go_wp2
   go_meet
   case rel => exact ⟨_, (false), (by first | rfl | (simp; done) | (simp [*]; done)), H', ⟨by first | omega | exact Nat.le_refl _⟩, ⟨by (with_reducible repeat (first | refine blk_drewN ?_ _ | refine blk_drew ?_ | refine blk_alloc ?_ _)); exact BK107.out⟩, ⟨(qed14_ HB.out GE107.out)⟩⟩
  ·rw [if_neg c4] at H
   have c4b0 : (a0.toList == ([] : List UInt8)) = false := beq_eq_false_iff_ne.mpr c4
   have c4b1 : (a0.toList != ([] : List UInt8)) = true := bne_iff_ne.mpr c4
   (first | rw [c4b0] | (simp only [i64_w, i32_w]; rw [c4b0]) | skip)
   by_cases c5 : 0 < (a0.size : Int)
   ·rw [if_pos c5] at H
    have c5b0 : decide (0 < (a0.size : Int)) = true := decide_eq_true c5
    have c5b1 : decide (0 < a0.size) = true := decide_eq_true (by omega)
    clear c5
    have H' := Aside0.mk H
    clear H
    have p6 : 0 ≤ (0 : Int) := (by omega)
    have q6 : 0 < a0.size := (by have : (0 : Int) < (a0.size : Int) := of_decide_eq_true (by first | (with_reducible assumption) | assumption); omega)
    have hx6 : ∀ h : 0 < a0.size, ((a0[0]'h).toNat : Int) = bt a0 0 := bt_at a0 0
    clear p6
    have qi6 : (0 < (a0.size : Int)) = True := eq_true (of_decide_eq_true (by first | (with_reducible assumption) | assumption))
    replace q6 := eq_true q6
    go_wp2
    go_meet
    case rel => exact ⟨_, (((bt a0 0) == 45)), (by first | rfl | (simp; done) | (simp [*]; done)), H', ⟨by first | omega | exact Nat.le_refl _⟩, ⟨by (with_reducible repeat (first | refine blk_drewN ?_ _ | refine blk_drew ?_ | refine blk_alloc ?_ _)); exact BK107.out⟩, ⟨(qed14_ HB.out GE107.out)⟩⟩
   ·rw [if_neg c5] at H
    exact absurd H (by simp)
 case rest =>
  clear HC2
  try clear p2
  try clear c3
  try clear c4
  try clear c4b0
  try clear c4b1
  try clear c5
  try clear c5b0
  try clear c5b1
  try clear p6
  try clear q6
  try clear hx6
  try clear qi6
  try clear p6
  try clear q6
  obtain ⟨kq, x14_1, rfl, HA, HJ1, BK107, HB⟩ := hcut
  cases kq with
  | zero => exact absurd HA.out (by simp [caravanref5_Number.j0])
  | succ kj1 =>
   have H := HA.out
   clear HA
   simp only [caravanref5_Number.j0] at H
   have HC7 := Aside0.mk H
   clear H
   go_upto_if 14 with (fail)
   go_cut [4, 5] (fun v4 v5 wc => ∃ (kq : Nat) (x4_6 : Int) (x5_6 : Int), v4 = .int .i64 x4_6 ∧ v5 = .int .u64 x5_6 ∧ Aside0 (caravanref5_Number.j1 kq a0 0 x4_6 x5_6 = some (r1, r2)) ∧ Aside0 (kq ≤ kj1) ∧ Aside0 (wc.heap[gb107]? = some (.cells #[.int .i64 0, .bool false] 96 (0, 0))) ∧ Aside0 (Below w.heap.size w wc))
   case first =>
    have H := HC7.out
    clear HC7
    by_cases c8 : x14_1 = true
    ·subst c8
     have H1 : (caravanref5_Number.j1 kj1 a0 0 1 (IntKind.u64.wrap (9223372036854775807 + 1))) = some (r1, r2) := by rw [if_pos rfl] at H; exact H
     clear H
     have H := H1
     clear H1
     have H' := Aside0.mk H
     clear H
     go_wp2
     go_meet
     case rel => exact ⟨_, (1), (IntKind.u64.wrap (9223372036854775807 + 1)), (by first | rfl | (simp; done) | (simp [*]; done)), (by first | rfl | (simp; done) | (simp [*]; done)), H', ⟨by have := HJ1.out; first | omega | exact Nat.le_refl _⟩, ⟨by (with_reducible repeat (first | refine blk_drewN ?_ _ | refine blk_drew ?_ | refine blk_alloc ?_ _)); exact BK107.out⟩, ⟨(qed14_ HB.out GE107.out)⟩⟩
    ·replace c8 := Bool.eq_false_iff.mpr c8
     subst c8
     have H1 : (caravanref5_Number.j1 kj1 a0 0 0 9223372036854775807) = some (r1, r2) := by rw [if_neg (show ¬ (false = true) by decide)] at H; exact H
     clear H
     have H := H1
     clear H1
     have H' := Aside0.mk H
     clear H
     go_wp2
     go_meet
     case rel => exact ⟨_, (0), (9223372036854775807), (by first | rfl | (simp; done) | (simp [*]; done)), (by first | rfl | (simp; done) | (simp [*]; done)), H', ⟨by have := HJ1.out; first | omega | exact Nat.le_refl _⟩, ⟨by (with_reducible repeat (first | refine blk_drewN ?_ _ | refine blk_drew ?_ | refine blk_alloc ?_ _)); exact BK107.out⟩, ⟨(qed14_ HB.out GE107.out)⟩⟩
   case rest =>
    clear HC7
    try clear p2
    try clear c3
    try clear c4
    try clear c4b0
    try clear c4b1
    try clear c5
    try clear c5b0
    try clear c5b1
    try clear p6
    try clear q6
    try clear hx6
    try clear qi6
    try clear c8
    try clear p2
    try clear p6
    try clear q6
    obtain ⟨kq, x4_6, x5_6, rfl, rfl, HA, HJ6, BK107, HB⟩ := hcut
    cases kq with
    | zero => exact absurd HA.out (by simp [caravanref5_Number.j1])
    | succ kj6 =>
     have H := HA.out
     clear HA
     simp only [caravanref5_Number.j1] at H
     have H' := Aside0.mk H
     clear H
     go_wp2
     go_loopg [3, 6] kj6 (fun kq v3 v6 w' => ∃ (x3_3 : Int) (x6_3 : Int) (x108000_3 : Int) (x108001_3 : Bool), v3 = .int .u64 x3_3 ∧ v6 = .int .i64 x6_3 ∧ Aside0 (caravanref5_Number.l0 kq a0 x3_3 x4_6 x5_6 x6_3 = some (r1, r2)) ∧ Aside0 (kq ≤ kj6) ∧ Aside0 (w'.heap[gb107]? = some (.cells #[.int .i64 x108000_3, .bool x108001_3] 96 (0, 0))) ∧ Aside0 (Below w.heap.size w w'))
     case atStart => exact ⟨(0), (x4_6), (0), (false), (by first | rfl | (simp; done) | (simp [*]; done)), (by first | rfl | (simp; done) | (simp [*]; done)), H', ⟨Nat.le_refl _⟩, ⟨by (with_reducible repeat (first | refine blk_drewN ?_ _ | refine blk_drew ?_ | refine blk_alloc ?_ _)); exact BK107.out⟩, ⟨(qed14_ HB.out GE107.out)⟩⟩
     case round =>
      clear H'
      try clear p2
      try clear c3
      try clear c4
      try clear c4b0
      try clear c4b1
      try clear c5
      try clear c5b0
      try clear c5b1
      try clear p6
      try clear q6
      try clear hx6
      try clear qi6
      try clear c8
      try clear p2
      try clear p6
      try clear q6
      obtain ⟨x3_3, x6_3, x108000_3, x108001_3, rfl, rfl, HA, HK3, BK107, HB⟩ := hrel
      cases gk with
      | zero => exact absurd HA.out (by simp [caravanref5_Number.l0])
      | succ k3 =>
       have H := HA.out
       clear HA
       simp only [caravanref5_Number.l0] at H
       by_cases c9 : x6_3 < (a0.size : Int)
       ·rw [if_pos c9] at H
        have c9b0 : decide (x6_3 < (a0.size : Int)) = true := decide_eq_true c9
        clear c9
        by_cases c10 : 0 ≤ x6_3
        ·rw [if_pos c10] at H
         have c10b0 : decide (0 ≤ x6_3) = true := decide_eq_true c10
         clear c10
         by_cases c12 : (bt a0 x6_3) < 48
         ·rw [if_pos c12] at H
          have c12b0 : decide ((bt a0 x6_3) < 48) = true := decide_eq_true c12
          clear c12
          simp only [Option.some.injEq, Prod.mk.injEq] at H
          obtain ⟨rfl, rfl⟩ := H
          have p11 : 0 ≤ (x6_3 : Int) := of_decide_eq_true (by first | (with_reducible assumption) | assumption)
          have q11 : x6_3 < (a0.size : Int) := of_decide_eq_true (by first | (with_reducible assumption) | assumption)
          have hx11 := bt_at a0 x6_3
          replace p11 := eq_true p11
          replace q11 := eq_true q11
          have hcz13_0 : wr.cell? ⟨gb107, 0, none⟩ = some (.int .i64 x108000_3) := (blk_cell BK107.out 0).trans rfl
          have hcz13_1 : wr.cell? ⟨gb107, 1, none⟩ = some (.bool x108001_3) := (blk_cell BK107.out 1).trans rfl
          have hfz13_0 := blk_frozen BK107.out 0
          have hfz13_1 := blk_frozen BK107.out 1
          go_wp2
          refine bodyPost_ret (results_cell_row rfl _ _ gb107 96 #[.int .i64 0, .bool false] (0, 0) _ rfl (by (with_reducible repeat (first | refine blk_drewN ?_ _ | refine blk_drew ?_ | refine blk_alloc ?_ _)); refine blk_put (cs := #[.int .i64 0, .bool x108001_3]) ?_ 1 _ rfl; (with_reducible repeat (first | refine blk_drewN ?_ _ | refine blk_drew ?_ | refine blk_alloc ?_ _)); refine blk_put (cs := #[.int .i64 x108000_3, .bool x108001_3]) ?_ 0 _ rfl; (with_reducible repeat (first | refine blk_drewN ?_ _ | refine blk_drew ?_ | refine blk_alloc ?_ _)); exact BK107.out) Tryd.underlying96 rfl (by kernel_rfl)) rfl ?_
          exact ⟨by first | rfl | (simp [errW_none, errW_some] <;> rfl) | (simp [*, errW_none, errW_some] <;> rfl), (qed14_ HB.out GE107.out)⟩
         ·rw [if_neg c12] at H
          have c12b0 : decide ((bt a0 x6_3) < 48) = false := decide_eq_false c12
          clear c12
          by_cases c15 : (bt a0 x6_3) > 57
          ·rw [if_pos c15] at H
           have c15b0 : decide (57 < (bt a0 x6_3)) = true := decide_eq_true c15
           clear c15
           simp only [Option.some.injEq, Prod.mk.injEq] at H
           obtain ⟨rfl, rfl⟩ := H
           have p11 : 0 ≤ (x6_3 : Int) := of_decide_eq_true (by first | (with_reducible assumption) | assumption)
           have q11 : x6_3 < (a0.size : Int) := of_decide_eq_true (by first | (with_reducible assumption) | assumption)
           have hx11 := bt_at a0 x6_3
           replace p11 := eq_true p11
           replace q11 := eq_true q11
           have p14 : 0 ≤ (x6_3 : Int) := of_decide_eq_true (by first | (with_reducible assumption) | assumption)
           have q14 : x6_3 < (a0.size : Int) := of_decide_eq_true (by first | (with_reducible assumption) | assumption)
           have hx14 := bt_at a0 x6_3
           replace p14 := eq_true p14
           replace q14 := eq_true q14
           have hcz16_0 : wr.cell? ⟨gb107, 0, none⟩ = some (.int .i64 x108000_3) := (blk_cell BK107.out 0).trans rfl
           have hcz16_1 : wr.cell? ⟨gb107, 1, none⟩ = some (.bool x108001_3) := (blk_cell BK107.out 1).trans rfl
           have hfz16_0 := blk_frozen BK107.out 0
           have hfz16_1 := blk_frozen BK107.out 1
           go_wp2
           refine bodyPost_ret (results_cell_row rfl _ _ gb107 96 #[.int .i64 0, .bool false] (0, 0) _ rfl (by (with_reducible repeat (first | refine blk_drewN ?_ _ | refine blk_drew ?_ | refine blk_alloc ?_ _)); refine blk_put (cs := #[.int .i64 0, .bool x108001_3]) ?_ 1 _ rfl; (with_reducible repeat (first | refine blk_drewN ?_ _ | refine blk_drew ?_ | refine blk_alloc ?_ _)); refine blk_put (cs := #[.int .i64 x108000_3, .bool x108001_3]) ?_ 0 _ rfl; (with_reducible repeat (first | refine blk_drewN ?_ _ | refine blk_drew ?_ | refine blk_alloc ?_ _)); exact BK107.out) Tryd.underlying96 rfl (by kernel_rfl)) rfl ?_
           exact ⟨by first | rfl | (simp [errW_none, errW_some] <;> rfl) | (simp [*, errW_none, errW_some] <;> rfl), (qed14_ HB.out GE107.out)⟩
          ·rw [if_neg c15] at H
           have c15b0 : decide (57 < (bt a0 x6_3)) = false := decide_eq_false c15
           clear c15
           by_cases c18 : x3_3 > (IntKind.u64.wrap (Int.tdiv (IntKind.u64.wrap (x5_6 - (((bt a0 x6_3) - 48) % 256))) 10))
           ·rw [if_pos c18] at H
            have c18b0 : decide ((IntKind.u64.wrap (Int.tdiv (IntKind.u64.wrap (x5_6 - (((bt a0 x6_3) - 48) % 256))) 10)) < x3_3) = true := decide_eq_true c18
            clear c18
            simp only [Option.some.injEq, Prod.mk.injEq] at H
            obtain ⟨rfl, rfl⟩ := H
            have p11 : 0 ≤ (x6_3 : Int) := of_decide_eq_true (by first | (with_reducible assumption) | assumption)
            have q11 : x6_3 < (a0.size : Int) := of_decide_eq_true (by first | (with_reducible assumption) | assumption)
            have hx11 := bt_at a0 x6_3
            replace p11 := eq_true p11
            replace q11 := eq_true q11
            have p14 : 0 ≤ (x6_3 : Int) := of_decide_eq_true (by first | (with_reducible assumption) | assumption)
            have q14 : x6_3 < (a0.size : Int) := of_decide_eq_true (by first | (with_reducible assumption) | assumption)
            have hx14 := bt_at a0 x6_3
            replace p14 := eq_true p14
            replace q14 := eq_true q14
            have p17 : 0 ≤ (x6_3 : Int) := of_decide_eq_true (by first | (with_reducible assumption) | assumption)
            have q17 : x6_3 < (a0.size : Int) := of_decide_eq_true (by first | (with_reducible assumption) | assumption)
            have hx17 := bt_at a0 x6_3
            replace p17 := eq_true p17
            replace q17 := eq_true q17
            have hcz19_0 : wr.cell? ⟨gb107, 0, none⟩ = some (.int .i64 x108000_3) := (blk_cell BK107.out 0).trans rfl
            have hcz19_1 : wr.cell? ⟨gb107, 1, none⟩ = some (.bool x108001_3) := (blk_cell BK107.out 1).trans rfl
            have hfz19_0 := blk_frozen BK107.out 0
            have hfz19_1 := blk_frozen BK107.out 1
            go_wp2
            refine bodyPost_ret (results_cell_row rfl _ _ gb107 96 #[.int .i64 0, .bool false] (0, 0) _ rfl (by (with_reducible repeat (first | refine blk_drewN ?_ _ | refine blk_drew ?_ | refine blk_alloc ?_ _)); refine blk_put (cs := #[.int .i64 0, .bool x108001_3]) ?_ 1 _ rfl; (with_reducible repeat (first | refine blk_drewN ?_ _ | refine blk_drew ?_ | refine blk_alloc ?_ _)); refine blk_put (cs := #[.int .i64 x108000_3, .bool x108001_3]) ?_ 0 _ rfl; (with_reducible repeat (first | refine blk_drewN ?_ _ | refine blk_drew ?_ | refine blk_alloc ?_ _)); exact BK107.out) Tryd.underlying96 rfl (by kernel_rfl)) rfl ?_
            exact ⟨by first | rfl | (simp [errW_none, errW_some] <;> rfl) | (simp [*, errW_none, errW_some] <;> rfl), (qed14_ HB.out GE107.out)⟩
           ·rw [if_neg c18] at H
            have c18b0 : decide ((IntKind.u64.wrap (Int.tdiv (IntKind.u64.wrap (x5_6 - (((bt a0 x6_3) - 48) % 256))) 10)) < x3_3) = false := decide_eq_false c18
            clear c18
            have H' := Aside0.mk H
            clear H
            have p11 : 0 ≤ (x6_3 : Int) := of_decide_eq_true (by first | (with_reducible assumption) | assumption)
            have q11 : x6_3 < (a0.size : Int) := of_decide_eq_true (by first | (with_reducible assumption) | assumption)
            have hx11 := bt_at a0 x6_3
            replace p11 := eq_true p11
            replace q11 := eq_true q11
            have p14 : 0 ≤ (x6_3 : Int) := of_decide_eq_true (by first | (with_reducible assumption) | assumption)
            have q14 : x6_3 < (a0.size : Int) := of_decide_eq_true (by first | (with_reducible assumption) | assumption)
            have hx14 := bt_at a0 x6_3
            replace p14 := eq_true p14
            replace q14 := eq_true q14
            have p17 : 0 ≤ (x6_3 : Int) := of_decide_eq_true (by first | (with_reducible assumption) | assumption)
            have q17 : x6_3 < (a0.size : Int) := of_decide_eq_true (by first | (with_reducible assumption) | assumption)
            have hx17 := bt_at a0 x6_3
            replace p17 := eq_true p17
            replace q17 := eq_true q17
            have p20 : 0 ≤ (x6_3 : Int) := of_decide_eq_true (by first | (with_reducible assumption) | assumption)
            have q20 : x6_3 < (a0.size : Int) := of_decide_eq_true (by first | (with_reducible assumption) | assumption)
            have hx20 := bt_at a0 x6_3
            replace p20 := eq_true p20
            replace q20 := eq_true q20
            go_wp2
            go_roundg k3
            case measure => have := HJ1.out; have := HJ6.out; have := HK3.out; omega
            case rel => exact ⟨(IntKind.u64.wrap ((IntKind.u64.wrap (10 * x3_3)) + (((bt a0 x6_3) - 48) % 256))), (wrap64 (x6_3 + 1)), (x108000_3), (x108001_3), (by first | rfl | (simp; done) | (simp [*]; done)), (by first | rfl | (simp; done) | (simp [*]; done)), H', ⟨by have := HJ1.out; have := HJ6.out; have := HK3.out; omega⟩, ⟨by (with_reducible repeat (first | refine blk_drewN ?_ _ | refine blk_drew ?_ | refine blk_alloc ?_ _)); exact BK107.out⟩, ⟨(qed14_ HB.out GE107.out)⟩⟩
        ·rw [if_neg c10] at H
         exact absurd H (by simp)
       ·rw [if_neg c9] at H
        have c9b0 : decide (x6_3 < (a0.size : Int)) = false := decide_eq_false c9
        clear c9
        by_cases c21 : x4_6 = 1
        ·rw [if_pos c21] at H
         have c21b0 : (x4_6 == 1) = true := beq_iff_eq.mpr c21
         have c21b1 : (x4_6 != 1) = false := bne_eq_false_iff_eq.mpr c21
         clear c21
         by_cases c22 : (a0.size : Int) = x4_6
         ·rw [if_pos c22] at H
          have c22b0 : ((a0.size : Int) == x4_6) = true := beq_iff_eq.mpr c22
          have c22b1 : ((a0.size : Int) != x4_6) = false := bne_eq_false_iff_eq.mpr c22
          clear c22
          simp only [Option.some.injEq, Prod.mk.injEq] at H
          obtain ⟨rfl, rfl⟩ := H
          have hcz23_0 : wr.cell? ⟨gb107, 0, none⟩ = some (.int .i64 x108000_3) := (blk_cell BK107.out 0).trans rfl
          have hcz23_1 : wr.cell? ⟨gb107, 1, none⟩ = some (.bool x108001_3) := (blk_cell BK107.out 1).trans rfl
          have hfz23_0 := blk_frozen BK107.out 0
          have hfz23_1 := blk_frozen BK107.out 1
          go_wp2
          refine bodyPost_ret (results_cell_row rfl _ _ gb107 96 #[.int .i64 0, .bool false] (0, 0) _ rfl (by (with_reducible repeat (first | refine blk_drewN ?_ _ | refine blk_drew ?_ | refine blk_alloc ?_ _)); refine blk_put (cs := #[.int .i64 0, .bool x108001_3]) ?_ 1 _ rfl; (with_reducible repeat (first | refine blk_drewN ?_ _ | refine blk_drew ?_ | refine blk_alloc ?_ _)); refine blk_put (cs := #[.int .i64 x108000_3, .bool x108001_3]) ?_ 0 _ rfl; (with_reducible repeat (first | refine blk_drewN ?_ _ | refine blk_drew ?_ | refine blk_alloc ?_ _)); exact BK107.out) Tryd.underlying96 rfl (by kernel_rfl)) rfl ?_
          exact ⟨by first | rfl | (simp [errW_none, errW_some] <;> rfl) | (simp [*, errW_none, errW_some] <;> rfl), (qed14_ HB.out GE107.out)⟩
         ·rw [if_neg c22] at H
          have c22b0 : ((a0.size : Int) == x4_6) = false := beq_eq_false_iff_ne.mpr c22
          have c22b1 : ((a0.size : Int) != x4_6) = true := bne_iff_ne.mpr c22
          replace H := Option.bind_eq_some_iff.mp H
          obtain ⟨t108, A240, H⟩ := H
          replace H : (if t108.toList = a0.toList then (some (wrap64 (IntKind.u64.wrap (-x3_3)), true)) else (some (0, false))) = some (r1, r2) := H
          have A24 := Aside0.mk A240
          clear A240
          by_cases c25 : t108.toList = a0.toList
          ·rw [if_pos c25] at H
           have c25b0 : (t108.toList == a0.toList) = true := beq_iff_eq.mpr c25
           have c25b1 : (t108.toList != a0.toList) = false := bne_eq_false_iff_eq.mpr c25
           clear c25
           simp only [Option.some.injEq, Prod.mk.injEq] at H
           obtain ⟨rfl, rfl⟩ := H
           go_wp2_with (first | (go_at_call 21; (with_reducible refine (caravanref1_Digits.calls k3 (wrap64 (IntKind.u64.wrap (-x3_3))) t108 _ A24.out).mono ?_); rintro e w26 ⟨rfl, hb⟩; have n0_ := Aside0.mk (blk_below (g := gb107) (o := .cells #[.int .i64 x108000_3, .bool x108001_3] 96 (0, 0)) (q1466_ BK107.out) hb); have n1_ := Aside0.mk (below_step (qed14_ HB.out GE107.out) hb); clear BK107; clear HB; have BK107 := n0_; have HB := n1_; clear n0_ n1_; (try clear hb); (try clear hb2); (try clear hk); (try clear hi); have hcz27_0 : w26.cell? ⟨gb107, 0, none⟩ = some (.int .i64 x108000_3) := (blk_cell BK107.out 0).trans rfl; have hcz27_1 : w26.cell? ⟨gb107, 1, none⟩ = some (.bool x108001_3) := (blk_cell BK107.out 1).trans rfl; have hfz27_0 := blk_frozen BK107.out 0; have hfz27_1 := blk_frozen BK107.out 1))
           refine bodyPost_ret (results_cell_row rfl _ _ gb107 96 #[.int .i64 (wrap64 (IntKind.u64.wrap (-x3_3))), .bool true] (0, 0) _ rfl (by (with_reducible repeat (first | refine blk_drewN ?_ _ | refine blk_drew ?_ | refine blk_alloc ?_ _)); refine blk_put (cs := #[.int .i64 (wrap64 (IntKind.u64.wrap (-x3_3))), .bool x108001_3]) ?_ 1 _ rfl; (with_reducible repeat (first | refine blk_drewN ?_ _ | refine blk_drew ?_ | refine blk_alloc ?_ _)); refine blk_put (cs := #[.int .i64 x108000_3, .bool x108001_3]) ?_ 0 _ rfl; (with_reducible repeat (first | refine blk_drewN ?_ _ | refine blk_drew ?_ | refine blk_alloc ?_ _)); exact BK107.out) Tryd.underlying96 rfl (by kernel_rfl)) rfl ?_
           exact ⟨by first | rfl | (simp [errW_none, errW_some] <;> rfl) | (simp [*, errW_none, errW_some] <;> rfl), (qed14_ HB.out GE107.out)⟩
          ·rw [if_neg c25] at H
           have c25b0 : (t108.toList == a0.toList) = false := beq_eq_false_iff_ne.mpr c25
           have c25b1 : (t108.toList != a0.toList) = true := bne_iff_ne.mpr c25
           simp only [Option.some.injEq, Prod.mk.injEq] at H
           obtain ⟨rfl, rfl⟩ := H
           go_wp2_with (first | (go_at_call 21; (with_reducible refine (caravanref1_Digits.calls k3 (wrap64 (IntKind.u64.wrap (-x3_3))) t108 _ A24.out).mono ?_); rintro e w28 ⟨rfl, hb⟩; have n0_ := Aside0.mk (blk_below (g := gb107) (o := .cells #[.int .i64 x108000_3, .bool x108001_3] 96 (0, 0)) (q1466_ BK107.out) hb); have n1_ := Aside0.mk (below_step (qed14_ HB.out GE107.out) hb); clear BK107; clear HB; have BK107 := n0_; have HB := n1_; clear n0_ n1_; (try clear hb); (try clear hb2); (try clear hk); (try clear hi); have hcz29_0 : w28.cell? ⟨gb107, 0, none⟩ = some (.int .i64 x108000_3) := (blk_cell BK107.out 0).trans rfl; have hcz29_1 : w28.cell? ⟨gb107, 1, none⟩ = some (.bool x108001_3) := (blk_cell BK107.out 1).trans rfl; have hfz29_0 := blk_frozen BK107.out 0; have hfz29_1 := blk_frozen BK107.out 1))
           refine bodyPost_ret (results_cell_row rfl _ _ gb107 96 #[.int .i64 0, .bool false] (0, 0) _ rfl (by (with_reducible repeat (first | refine blk_drewN ?_ _ | refine blk_drew ?_ | refine blk_alloc ?_ _)); refine blk_put (cs := #[.int .i64 0, .bool x108001_3]) ?_ 1 _ rfl; (with_reducible repeat (first | refine blk_drewN ?_ _ | refine blk_drew ?_ | refine blk_alloc ?_ _)); refine blk_put (cs := #[.int .i64 x108000_3, .bool x108001_3]) ?_ 0 _ rfl; (with_reducible repeat (first | refine blk_drewN ?_ _ | refine blk_drew ?_ | refine blk_alloc ?_ _)); exact BK107.out) Tryd.underlying96 rfl (by kernel_rfl)) rfl ?_
           exact ⟨by first | rfl | (simp [errW_none, errW_some] <;> rfl) | (simp [*, errW_none, errW_some] <;> rfl), (qed14_ HB.out GE107.out)⟩
        ·rw [if_neg c21] at H
         have c21b0 : (x4_6 == 1) = false := beq_eq_false_iff_ne.mpr c21
         have c21b1 : (x4_6 != 1) = true := bne_iff_ne.mpr c21
         by_cases c30 : (a0.size : Int) = x4_6
         ·rw [if_pos c30] at H
          have c30b0 : ((a0.size : Int) == x4_6) = true := beq_iff_eq.mpr c30
          have c30b1 : ((a0.size : Int) != x4_6) = false := bne_eq_false_iff_eq.mpr c30
          clear c30
          simp only [Option.some.injEq, Prod.mk.injEq] at H
          obtain ⟨rfl, rfl⟩ := H
          have hcz31_0 : wr.cell? ⟨gb107, 0, none⟩ = some (.int .i64 x108000_3) := (blk_cell BK107.out 0).trans rfl
          have hcz31_1 : wr.cell? ⟨gb107, 1, none⟩ = some (.bool x108001_3) := (blk_cell BK107.out 1).trans rfl
          have hfz31_0 := blk_frozen BK107.out 0
          have hfz31_1 := blk_frozen BK107.out 1
          go_wp2
          refine bodyPost_ret (results_cell_row rfl _ _ gb107 96 #[.int .i64 0, .bool false] (0, 0) _ rfl (by (with_reducible repeat (first | refine blk_drewN ?_ _ | refine blk_drew ?_ | refine blk_alloc ?_ _)); refine blk_put (cs := #[.int .i64 0, .bool x108001_3]) ?_ 1 _ rfl; (with_reducible repeat (first | refine blk_drewN ?_ _ | refine blk_drew ?_ | refine blk_alloc ?_ _)); refine blk_put (cs := #[.int .i64 x108000_3, .bool x108001_3]) ?_ 0 _ rfl; (with_reducible repeat (first | refine blk_drewN ?_ _ | refine blk_drew ?_ | refine blk_alloc ?_ _)); exact BK107.out) Tryd.underlying96 rfl (by kernel_rfl)) rfl ?_
          exact ⟨by first | rfl | (simp [errW_none, errW_some] <;> rfl) | (simp [*, errW_none, errW_some] <;> rfl), (qed14_ HB.out GE107.out)⟩
         ·rw [if_neg c30] at H
          have c30b0 : ((a0.size : Int) == x4_6) = false := beq_eq_false_iff_ne.mpr c30
          have c30b1 : ((a0.size : Int) != x4_6) = true := bne_iff_ne.mpr c30
          replace H := Option.bind_eq_some_iff.mp H
          obtain ⟨t109, A320, H⟩ := H
          replace H : (if t109.toList = a0.toList then (some (wrap64 (x3_3), true)) else (some (0, false))) = some (r1, r2) := H
          have A32 := Aside0.mk A320
          clear A320
          by_cases c33 : t109.toList = a0.toList
          ·rw [if_pos c33] at H
           have c33b0 : (t109.toList == a0.toList) = true := beq_iff_eq.mpr c33
           have c33b1 : (t109.toList != a0.toList) = false := bne_eq_false_iff_eq.mpr c33
           clear c33
           simp only [Option.some.injEq, Prod.mk.injEq] at H
           obtain ⟨rfl, rfl⟩ := H
           go_wp2_with (first | (go_at_call 21; (with_reducible refine (caravanref1_Digits.calls k3 (wrap64 (x3_3)) t109 _ A32.out).mono ?_); rintro e w34 ⟨rfl, hb⟩; have n0_ := Aside0.mk (blk_below (g := gb107) (o := .cells #[.int .i64 x108000_3, .bool x108001_3] 96 (0, 0)) (q1466_ BK107.out) hb); have n1_ := Aside0.mk (below_step (qed14_ HB.out GE107.out) hb); clear BK107; clear HB; have BK107 := n0_; have HB := n1_; clear n0_ n1_; (try clear hb); (try clear hb2); (try clear hk); (try clear hi); have hcz35_0 : w34.cell? ⟨gb107, 0, none⟩ = some (.int .i64 x108000_3) := (blk_cell BK107.out 0).trans rfl; have hcz35_1 : w34.cell? ⟨gb107, 1, none⟩ = some (.bool x108001_3) := (blk_cell BK107.out 1).trans rfl; have hfz35_0 := blk_frozen BK107.out 0; have hfz35_1 := blk_frozen BK107.out 1))
           refine bodyPost_ret (results_cell_row rfl _ _ gb107 96 #[.int .i64 (wrap64 (x3_3)), .bool true] (0, 0) _ rfl (by (with_reducible repeat (first | refine blk_drewN ?_ _ | refine blk_drew ?_ | refine blk_alloc ?_ _)); refine blk_put (cs := #[.int .i64 (wrap64 (x3_3)), .bool x108001_3]) ?_ 1 _ rfl; (with_reducible repeat (first | refine blk_drewN ?_ _ | refine blk_drew ?_ | refine blk_alloc ?_ _)); refine blk_put (cs := #[.int .i64 x108000_3, .bool x108001_3]) ?_ 0 _ rfl; (with_reducible repeat (first | refine blk_drewN ?_ _ | refine blk_drew ?_ | refine blk_alloc ?_ _)); exact BK107.out) Tryd.underlying96 rfl (by kernel_rfl)) rfl ?_
           exact ⟨by first | rfl | (simp [errW_none, errW_some] <;> rfl) | (simp [*, errW_none, errW_some] <;> rfl), (qed14_ HB.out GE107.out)⟩
          ·rw [if_neg c33] at H
           have c33b0 : (t109.toList == a0.toList) = false := beq_eq_false_iff_ne.mpr c33
           have c33b1 : (t109.toList != a0.toList) = true := bne_iff_ne.mpr c33
           simp only [Option.some.injEq, Prod.mk.injEq] at H
           obtain ⟨rfl, rfl⟩ := H
           go_wp2_with (first | (go_at_call 21; (with_reducible refine (caravanref1_Digits.calls k3 (wrap64 (x3_3)) t109 _ A32.out).mono ?_); rintro e w36 ⟨rfl, hb⟩; have n0_ := Aside0.mk (blk_below (g := gb107) (o := .cells #[.int .i64 x108000_3, .bool x108001_3] 96 (0, 0)) (q1466_ BK107.out) hb); have n1_ := Aside0.mk (below_step (qed14_ HB.out GE107.out) hb); clear BK107; clear HB; have BK107 := n0_; have HB := n1_; clear n0_ n1_; (try clear hb); (try clear hb2); (try clear hk); (try clear hi); have hcz37_0 : w36.cell? ⟨gb107, 0, none⟩ = some (.int .i64 x108000_3) := (blk_cell BK107.out 0).trans rfl; have hcz37_1 : w36.cell? ⟨gb107, 1, none⟩ = some (.bool x108001_3) := (blk_cell BK107.out 1).trans rfl; have hfz37_0 := blk_frozen BK107.out 0; have hfz37_1 := blk_frozen BK107.out 1))
           refine bodyPost_ret (results_cell_row rfl _ _ gb107 96 #[.int .i64 0, .bool false] (0, 0) _ rfl (by (with_reducible repeat (first | refine blk_drewN ?_ _ | refine blk_drew ?_ | refine blk_alloc ?_ _)); refine blk_put (cs := #[.int .i64 0, .bool x108001_3]) ?_ 1 _ rfl; (with_reducible repeat (first | refine blk_drewN ?_ _ | refine blk_drew ?_ | refine blk_alloc ?_ _)); refine blk_put (cs := #[.int .i64 x108000_3, .bool x108001_3]) ?_ 0 _ rfl; (with_reducible repeat (first | refine blk_drewN ?_ _ | refine blk_drew ?_ | refine blk_alloc ?_ _)); exact BK107.out) Tryd.underlying96 rfl (by kernel_rfl)) rfl ?_
           exact ⟨by first | rfl | (simp [errW_none, errW_some] <;> rfl) | (simp [*, errW_none, errW_some] <;> rfl), (qed14_ HB.out GE107.out)⟩

end Go.Proofs.YtijploopgmbhfaaDoor.G
