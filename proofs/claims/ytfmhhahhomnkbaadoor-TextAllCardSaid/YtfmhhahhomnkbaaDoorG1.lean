/- What functions of the translation come to, and their calls' proofs; by a program of mine over the kit's print, with contracts given by hand beside. Conditions: where a plain function tells none, nothing is said. -/
import Derived.Test.YtfmhhahhomnkbaaDoorG0
import Derived.Test.YtfmhhahhomnkbaaDoorGAdd
import Derived.Test.YtfmhhahhomnkbaaDoorGNumber
namespace Go.Proofs.YtfmhhahhomnkbaaDoor.G
open Go.RowKit Go.Proofs.YtfmhhahhomnkbaaDoorW.PrintWords Go.Proofs.YtfmhhahhomnkbaaDoorW.PrintLast Go.Proofs.YtfmhhahhomnkbaaDoorW.PrintMore
attribute [local go_sem] max2_int min2_int max_two min_two max_three min_three max_four min_four   -- for this text's walks alone
set_option linter.unusedVariables false
set_option linter.unusedSimpArgs false

/-! ### caravanref1_Digits: function 7 -/
mutual
def caravanref1_Digits.j0 : Nat → Int → Int → ByteArray → Option (ByteArray)
 | 0, _, _, _ => none
 | k + 1, x0, x3, x4 => caravanref1_Digits.l0 k x0 x3 x4
def caravanref1_Digits.l0 : Nat → Int → Int → ByteArray → Option (ByteArray)
 | 0, _, _, _ => none
 | k + 1, x0, x3, x4 => if x3 ≥ 10 then ((some (([(IntKind.u64.wrap (48 + (Int.tmod x3 10))) % 256] : List Int) : List Int)).bind fun y101 => (if (strOfNums y101).size + x4.size ≤ 9223372036854775807 then (caravanref1_Digits.l0 k x0 (IntKind.u64.wrap (Int.tdiv x3 10)) ((strOfNums y101) ++ x4)) else (none))) else ((some (([(IntKind.u64.wrap (48 + x3)) % 256] : List Int) : List Int)).bind fun y104 => (if (strOfNums y104).size + x4.size ≤ 9223372036854775807 then (if x0 < 0 then (if 1 + ((strOfNums y104) ++ x4).size ≤ 9223372036854775807 then (some ((⟨#[45]⟩ : ByteArray) ++ ((strOfNums y104) ++ x4))) else (none)) else (some ((strOfNums y104) ++ x4))) else (none)))
end
def caravanref1_Digits.f (k : Nat) (a0 : Int) : Option (ByteArray) := if a0 < 0 then (caravanref1_Digits.j0 k a0 (IntKind.u64.wrap (-(IntKind.u64.wrap (a0)))) (⟨#[]⟩ : ByteArray)) else (caravanref1_Digits.j0 k a0 (IntKind.u64.wrap (a0)) (⟨#[]⟩ : ByteArray))
theorem caravanref1_Digits.mono_l : ∀ k, (∀ y0 y1 y2, LeO (caravanref1_Digits.j0 k y0 y1 y2) (caravanref1_Digits.j0 (k + 1) y0 y1 y2)) ∧ (∀ y0 y1 y2, LeO (caravanref1_Digits.l0 k y0 y1 y2) (caravanref1_Digits.l0 (k + 1) y0 y1 y2))
 | 0 => ⟨fun _ _ _ r h => by simp [caravanref1_Digits.j0] at h, fun _ _ _ r h => by simp [caravanref1_Digits.l0] at h⟩
 | k + 1 => by
  obtain ⟨ih0, ih1⟩ := caravanref1_Digits.mono_l k
  refine ⟨?_, ?_⟩
  ·intro y0 y1 y2
   unfold caravanref1_Digits.j0
   repeat' first
   | (with_reducible exact ih0 _ _ _)
   | (with_reducible exact ih1 _ _ _)
   | (with_reducible exact LeO.refl _)
   | (with_reducible exact LeO.none _)
   | (with_reducible refine LeO.ite ?_ ?_)
   | (with_reducible refine LeO.bind ?_ (fun _ => ?_))
   | exact ih0 _ _ _
   | exact ih1 _ _ _
   | exact LeO.none _
   | refine LeO.ite ?_ ?_
   | refine LeO.bind ?_ (fun _ => ?_)
  ·intro y0 y1 y2
   unfold caravanref1_Digits.l0
   repeat' first
   | (with_reducible exact ih0 _ _ _)
   | (with_reducible exact ih1 _ _ _)
   | (with_reducible exact LeO.refl _)
   | (with_reducible exact LeO.none _)
   | (with_reducible refine LeO.ite ?_ ?_)
   | (with_reducible refine LeO.bind ?_ (fun _ => ?_))
   | exact ih0 _ _ _
   | exact ih1 _ _ _
   | exact LeO.none _
   | refine LeO.ite ?_ ?_
   | refine LeO.bind ?_ (fun _ => ?_)
theorem caravanref1_Digits.mono : ∀ a0 k, LeO (caravanref1_Digits.f k a0) (caravanref1_Digits.f (k + 1) a0) := by
 intro a0 k
 obtain ⟨ih0, ih1⟩ := caravanref1_Digits.mono_l k
 unfold caravanref1_Digits.f
 repeat' first
  | (with_reducible exact ih0 _ _ _)
  | (with_reducible exact ih1 _ _ _)
  | (with_reducible exact LeO.refl _)
  | (with_reducible exact LeO.none _)
  | (with_reducible refine LeO.ite ?_ ?_)
  | (with_reducible refine LeO.bind ?_ (fun _ => ?_))
  | exact ih0 _ _ _
  | exact ih1 _ _ _
  | exact LeO.none _
  | refine LeO.ite ?_ ?_
  | refine LeO.bind ?_ (fun _ => ?_)
set_option maxHeartbeats 8000000 in
set_option maxRecDepth 100000 in
theorem caravanref1_Digits.calls (k : Nat) (a0 : Int) (r : ByteArray) (w : World) (h : caravanref1_Digits.f k a0 = some r) :
 Calls Tryd.prog 7 #[.int .i64 a0] w fun e w' => e = .returned (.string r) ∧ Below w.heap.size w w' := by
 have HB := Aside0.mk (Below.refl w.heap.size w)
 have H : (if a0 < 0 then (caravanref1_Digits.j0 k a0 (IntKind.u64.wrap (-(IntKind.u64.wrap (a0)))) (⟨#[]⟩ : ByteArray)) else (caravanref1_Digits.j0 k a0 (IntKind.u64.wrap (a0)) (⟨#[]⟩ : ByteArray))) = some r := h
 clear h
 have HC2 := Aside0.mk H
 clear H
 go_enter Tryd.func7, Tryd.ntmps7
 go_upto_if 8 with (fail)
 go_cut [3] (fun v3 wc => ∃ (kq : Nat) (x3_1 : Int), v3 = .int .u64 x3_1 ∧ Aside0 (caravanref1_Digits.j0 kq a0 x3_1 (⟨#[]⟩ : ByteArray) = some r) ∧ Aside0 (kq ≤ k) ∧ Aside0 (Below w.heap.size w wc))
 case first =>
  have H := HC2.out
  clear HC2
  by_cases c3 : a0 < 0
  ·rw [if_pos c3] at H
   have c3b0 : decide (a0 < 0) = true := decide_eq_true c3
   clear c3
   (first | rw [c3b0] | (simp only [i64_w, i32_w]; rw [c3b0]) | skip)
   have H' := Aside0.mk H
   clear H
   go_wp2
   go_meet
   case rel => exact ⟨_, (IntKind.u64.wrap (-(IntKind.u64.wrap (a0)))), (by first | rfl | (simp; done) | (simp [*]; done)), H', ⟨by first | omega | exact Nat.le_refl _⟩, ⟨(qdb35_ HB.out)⟩⟩
  ·rw [if_neg c3] at H
   have c3b0 : decide (a0 < 0) = false := decide_eq_false c3
   clear c3
   (first | rw [c3b0] | (simp only [i64_w, i32_w]; rw [c3b0]) | skip)
   have H' := Aside0.mk H
   clear H
   go_wp2
   go_meet
   case rel => exact ⟨_, (IntKind.u64.wrap (a0)), (by first | rfl | (simp; done) | (simp [*]; done)), H', ⟨by first | omega | exact Nat.le_refl _⟩, ⟨(qdb35_ HB.out)⟩⟩
 case rest =>
  clear HC2
  try clear p2
  try clear c3
  try clear c3b0
  obtain ⟨kq, x3_1, rfl, HA, HJ1, HB⟩ := hcut
  cases kq with
  | zero => exact absurd HA.out (by simp [caravanref1_Digits.j0])
  | succ kj1 =>
   have H := HA.out
   clear HA
   simp only [caravanref1_Digits.j0] at H
   have H' := Aside0.mk H
   clear H
   go_wp2
   go_loopg [3, 4] kj1 (fun kq v3 v4 w' => ∃ (x3_2 : Int) (x4_2 : ByteArray), v3 = .int .u64 x3_2 ∧ v4 = .string x4_2 ∧ Aside0 (caravanref1_Digits.l0 kq a0 x3_2 x4_2 = some r) ∧ Aside0 (kq ≤ kj1) ∧ Aside0 (Below w.heap.size w w'))
   case atStart => exact ⟨(x3_1), ((⟨#[]⟩ : ByteArray)), (by first | rfl | (simp; done) | (simp [*]; done)), (by first | rfl | (simp; done) | (simp [*]; done)), H', ⟨Nat.le_refl _⟩, ⟨(qdb35_ HB.out)⟩⟩
   case round =>
    clear H'
    try clear p2
    try clear c3
    try clear c3b0
    try clear p2
    obtain ⟨x3_2, x4_2, rfl, rfl, HA, HK2, HB⟩ := hrel
    cases gk with
    | zero => exact absurd HA.out (by simp [caravanref1_Digits.l0])
    | succ k2 =>
     have H := HA.out
     clear HA
     simp only [caravanref1_Digits.l0] at H
     by_cases c4 : x3_2 ≥ 10
     ·rw [if_pos c4] at H
      have c4b0 : decide (10 ≤ x3_2) = true := decide_eq_true c4
      clear c4
      obtain ⟨y101, hy101⟩ : ∃ y_ : List Int, y_ = (([(IntKind.u64.wrap (48 + (Int.tmod x3_2 10))) % 256] : List Int)) := ⟨_, rfl⟩
      replace H : (if (strOfNums y101).size + x4_2.size ≤ 9223372036854775807 then (caravanref1_Digits.l0 k2 a0 (IntKind.u64.wrap (Int.tdiv x3_2 10)) ((strOfNums y101) ++ x4_2)) else (none)) = some r := by first | (rw [hy101]; with_reducible exact H) | (have H2_ := (Option.bind_some _ _).symm.trans H; rw [hy101]; with_reducible exact H2_) | (have H2_ := (Option.bind_some _ _).symm.trans H; with_reducible exact H2_) | with_reducible exact H | (rw [hy101]; exact H) | exact H
      have Ny101 := Aside0.mk hy101
      clear hy101
      by_cases c5 : (strOfNums y101).size + x4_2.size ≤ 9223372036854775807
      ·rw [if_pos c5] at H
       have c5b0 := eq_true c5
       have c5b1 : decide ((strOfNums y101).size + x4_2.size ≤ 9223372036854775807) = true := decide_eq_true c5
       try have c5b2 : (9223372036854775807 < (strOfNums y101).size + x4_2.size) = False := eq_false (Nat.not_lt.2 c5)
       have H' := Aside0.mk H
       clear H
       go_wp2_with (first | ((with_reducible refine gate_dst (N := 17) rfl ?_); refine Kd.R_lit (Kd.int .u8) _ 5 ?hg (N := 17) ?hd (xs := ([(IntKind.u64.wrap (48 + (Int.tmod x3_2 10))) % 256] : List Int)) (inner := [.int .u8 ((IntKind.u64.wrap (48 + (Int.tmod x3_2 10))) % 256)]) (ok := fun _ => True) (okp := fun _ => True) ?hr ?hp (fun _ hk => hk) trivial (Below.refl _ _) (Nat.le_refl _) (by simp) ?_; (case hd => rfl); (case hg => rfl); (case hr => first | (go_simp; done) | (go_simp; rfl)); (case hp => exact (Reps.one (show Kd.M (Kd.int .u8) _ _ _ ((IntKind.u64.wrap (48 + (Int.tmod x3_2 10))) % 256) [.int .u8 ((IntKind.u64.wrap (48 + (Int.tmod x3_2 10))) % 256)] from rfl) (Reps.none _ _))); intro v102 w6 ho7 hb hg_ hnew_; clear hg_ hnew_; (first | rw [← Ny101.out] at ho7 | (simp only [Int.reduceToNat] at ho7; rw [← Ny101.out] at ho7)); have n0_ := Aside0.mk (Kd.R_lower ho7 (below_size (qdb35_ HB.out))); have n1_ := Aside0.mk (below_step (qdb35_ HB.out) hb); clear HB; have HO103 := n0_; have HB := n1_; clear n0_ n1_; clear hb ho7; have hcv8 := own_string (P := Tryd.prog) Tryd.underlying43 Tryd.underlying5 Tryd.underlying9 (Kd.own_of_R HO103.out)))
       go_roundg k2
       case measure => have := HJ1.out; have := HK2.out; omega
       case rel => exact ⟨(IntKind.u64.wrap (Int.tdiv x3_2 10)), ((strOfNums y101) ++ x4_2), (by first | rfl | (simp; done) | (simp [*]; done)), (by first | rfl | (simp; done) | (simp [*]; done)), H', ⟨by have := HJ1.out; have := HK2.out; omega⟩, ⟨(qdb35_ HB.out)⟩⟩
      ·rw [if_neg c5] at H
       exact absurd H (by simp)
     ·rw [if_neg c4] at H
      have c4b0 : decide (10 ≤ x3_2) = false := decide_eq_false c4
      clear c4
      obtain ⟨y104, hy104⟩ : ∃ y_ : List Int, y_ = (([(IntKind.u64.wrap (48 + x3_2)) % 256] : List Int)) := ⟨_, rfl⟩
      replace H : (if (strOfNums y104).size + x4_2.size ≤ 9223372036854775807 then (if a0 < 0 then (if 1 + ((strOfNums y104) ++ x4_2).size ≤ 9223372036854775807 then (some ((⟨#[45]⟩ : ByteArray) ++ ((strOfNums y104) ++ x4_2))) else (none)) else (some ((strOfNums y104) ++ x4_2))) else (none)) = some r := by first | (rw [hy104]; with_reducible exact H) | (have H2_ := (Option.bind_some _ _).symm.trans H; rw [hy104]; with_reducible exact H2_) | (have H2_ := (Option.bind_some _ _).symm.trans H; with_reducible exact H2_) | with_reducible exact H | (rw [hy104]; exact H) | exact H
      have Ny104 := Aside0.mk hy104
      clear hy104
      by_cases c9 : (strOfNums y104).size + x4_2.size ≤ 9223372036854775807
      ·rw [if_pos c9] at H
       have c9b0 := eq_true c9
       have c9b1 : decide ((strOfNums y104).size + x4_2.size ≤ 9223372036854775807) = true := decide_eq_true c9
       try have c9b2 : (9223372036854775807 < (strOfNums y104).size + x4_2.size) = False := eq_false (Nat.not_lt.2 c9)
       by_cases c10 : a0 < 0
       ·rw [if_pos c10] at H
        have c10b0 : decide (a0 < 0) = true := decide_eq_true c10
        clear c10
        by_cases c11 : 1 + ((strOfNums y104) ++ x4_2).size ≤ 9223372036854775807
        ·rw [if_pos c11] at H
         have c11b0 := eq_true c11
         have c11b1 : decide (1 + ((strOfNums y104) ++ x4_2).size ≤ 9223372036854775807) = true := decide_eq_true c11
         try have c11b2 : (9223372036854775807 < 1 + ((strOfNums y104) ++ x4_2).size) = False := eq_false (Nat.not_lt.2 c11)
         try (have c11b3 := c11b2; simp only [ByteArray.size_append] at c11b3)
         obtain rfl := Option.some.inj H
         go_wp2_with (first | ((with_reducible refine gate_dst (N := 26) rfl ?_); refine Kd.R_lit (Kd.int .u8) _ 5 ?hg (N := 26) ?hd (xs := ([(IntKind.u64.wrap (48 + x3_2)) % 256] : List Int)) (inner := [.int .u8 ((IntKind.u64.wrap (48 + x3_2)) % 256)]) (ok := fun _ => True) (okp := fun _ => True) ?hr ?hp (fun _ hk => hk) trivial (Below.refl _ _) (Nat.le_refl _) (by simp) ?_; (case hd => rfl); (case hg => rfl); (case hr => first | (go_simp; done) | (go_simp; rfl)); (case hp => exact (Reps.one (show Kd.M (Kd.int .u8) _ _ _ ((IntKind.u64.wrap (48 + x3_2)) % 256) [.int .u8 ((IntKind.u64.wrap (48 + x3_2)) % 256)] from rfl) (Reps.none _ _))); intro v105 w12 ho13 hb hg_ hnew_; clear hg_ hnew_; (first | rw [← Ny104.out] at ho13 | (simp only [Int.reduceToNat] at ho13; rw [← Ny104.out] at ho13)); have n0_ := Aside0.mk (Kd.R_lower ho13 (below_size (qdb35_ HB.out))); have n1_ := Aside0.mk (below_step (qdb35_ HB.out) hb); clear HB; have HO106 := n0_; have HB := n1_; clear n0_ n1_; clear hb ho13; have hcv14 := own_string (P := Tryd.prog) Tryd.underlying43 Tryd.underlying5 Tryd.underlying9 (Kd.own_of_R HO106.out)))
         go_ret
         exact ⟨by first | rfl | (simp [errW_none, errW_some] <;> rfl) | (simp [*, errW_none, errW_some] <;> rfl), (qdb35_ HB.out)⟩
        ·rw [if_neg c11] at H
         exact absurd H (by simp)
       ·rw [if_neg c10] at H
        have c10b0 : decide (a0 < 0) = false := decide_eq_false c10
        clear c10
        obtain rfl := Option.some.inj H
        go_wp2_with (first | ((with_reducible refine gate_dst (N := 26) rfl ?_); refine Kd.R_lit (Kd.int .u8) _ 5 ?hg (N := 26) ?hd (xs := ([(IntKind.u64.wrap (48 + x3_2)) % 256] : List Int)) (inner := [.int .u8 ((IntKind.u64.wrap (48 + x3_2)) % 256)]) (ok := fun _ => True) (okp := fun _ => True) ?hr ?hp (fun _ hk => hk) trivial (Below.refl _ _) (Nat.le_refl _) (by simp) ?_; (case hd => rfl); (case hg => rfl); (case hr => first | (go_simp; done) | (go_simp; rfl)); (case hp => exact (Reps.one (show Kd.M (Kd.int .u8) _ _ _ ((IntKind.u64.wrap (48 + x3_2)) % 256) [.int .u8 ((IntKind.u64.wrap (48 + x3_2)) % 256)] from rfl) (Reps.none _ _))); intro v105 w15 ho16 hb hg_ hnew_; clear hg_ hnew_; (first | rw [← Ny104.out] at ho16 | (simp only [Int.reduceToNat] at ho16; rw [← Ny104.out] at ho16)); have n0_ := Aside0.mk (Kd.R_lower ho16 (below_size (qdb35_ HB.out))); have n1_ := Aside0.mk (below_step (qdb35_ HB.out) hb); clear HB; have HO106 := n0_; have HB := n1_; clear n0_ n1_; clear hb ho16; have hcv17 := own_string (P := Tryd.prog) Tryd.underlying43 Tryd.underlying5 Tryd.underlying9 (Kd.own_of_R HO106.out)))
        go_ret
        exact ⟨by first | rfl | (simp [errW_none, errW_some] <;> rfl) | (simp [*, errW_none, errW_some] <;> rfl), (qdb35_ HB.out)⟩
      ·rw [if_neg c9] at H
       exact absurd H (by simp)

/-! ### text_Range: function 20 -/
def text_Range.j0 : Nat → Int → Int → Int → Option (Int × Int)
 | 0, _, _, _ => none
 | k + 1, x0, x1, x2 => if x2 < 0 then (if (mx x1 0) ≥ (wrap64 ((mn (wrap64 (x2 + x0)) (wrap64 (x0 - 1))) + 1)) then (some (0, 0)) else (some (mx x1 0, wrap64 ((mn (wrap64 (x2 + x0)) (wrap64 (x0 - 1))) + 1)))) else (if (mx x1 0) ≥ (wrap64 ((mn x2 (wrap64 (x0 - 1))) + 1)) then (some (0, 0)) else (some (mx x1 0, wrap64 ((mn x2 (wrap64 (x0 - 1))) + 1))))
def text_Range.f (k : Nat) (a0 : Int) (a1 : Int) (a2 : Int) : Option (Int × Int) := if a1 < 0 then (text_Range.j0 k a0 (wrap64 (a1 + a0)) a2) else (text_Range.j0 k a0 a1 a2)
theorem text_Range.mono_l : ∀ k, (∀ y0 y1 y2, LeO (text_Range.j0 k y0 y1 y2) (text_Range.j0 (k + 1) y0 y1 y2))
 | 0 => fun _ _ _ r h => by simp [text_Range.j0] at h
 | k + 1 => by
  have ih0 := text_Range.mono_l k
  ·intro y0 y1 y2
   unfold text_Range.j0
   repeat' first
   | (with_reducible exact ih0 _ _ _)
   | (with_reducible exact LeO.refl _)
   | (with_reducible exact LeO.none _)
   | (with_reducible refine LeO.ite ?_ ?_)
   | (with_reducible refine LeO.bind ?_ (fun _ => ?_))
   | exact ih0 _ _ _
   | exact LeO.none _
   | refine LeO.ite ?_ ?_
   | refine LeO.bind ?_ (fun _ => ?_)
theorem text_Range.mono : ∀ a0 a1 a2 k, LeO (text_Range.f k a0 a1 a2) (text_Range.f (k + 1) a0 a1 a2) := by
 intro a0 a1 a2 k
 have ih0 := text_Range.mono_l k
 unfold text_Range.f
 repeat' first
  | (with_reducible exact ih0 _ _ _)
  | (with_reducible exact LeO.refl _)
  | (with_reducible exact LeO.none _)
  | (with_reducible refine LeO.ite ?_ ?_)
  | (with_reducible refine LeO.bind ?_ (fun _ => ?_))
  | exact ih0 _ _ _
  | exact LeO.none _
  | refine LeO.ite ?_ ?_
  | refine LeO.bind ?_ (fun _ => ?_)
set_option maxHeartbeats 8000000 in
set_option maxRecDepth 100000 in
theorem text_Range.calls (k : Nat) (a0 : Int) (a1 : Int) (a2 : Int) (r1 : Int) (r2 : Int) (w : World) (h : text_Range.f k a0 a1 a2 = some (r1, r2)) :
 Calls Tryd.prog 20 #[.int .i64 a0, .int .i64 a1, .int .i64 a2] w fun e w' => e = .returned (.tuple #[.int .i64 r1, .int .i64 r2]) ∧ Below w.heap.size w w' := by
 have HB := Aside0.mk (Below.refl w.heap.size w)
 have H : (if a1 < 0 then (text_Range.j0 k a0 (wrap64 (a1 + a0)) a2) else (text_Range.j0 k a0 a1 a2)) = some (r1, r2) := h
 clear h
 have HC4 := Aside0.mk H
 clear H
 go_enter Tryd.func20, Tryd.ntmps20
 go_upto_if 9 with (fail)
 go_cut [1] (fun v1 wc => ∃ (kq : Nat) (x1_3 : Int), v1 = .int .i64 x1_3 ∧ Aside0 (text_Range.j0 kq a0 x1_3 a2 = some (r1, r2)) ∧ Aside0 (kq ≤ k) ∧ Aside0 (Below w.heap.size w wc))
 case first =>
  have H := HC4.out
  clear HC4
  by_cases c5 : a1 < 0
  ·rw [if_pos c5] at H
   have c5b0 : decide (a1 < 0) = true := decide_eq_true c5
   clear c5
   (first | rw [c5b0] | (simp only [i64_w, i32_w]; rw [c5b0]) | skip)
   have H' := Aside0.mk H
   clear H
   go_wp2
   go_meet
   case rel => exact ⟨_, (wrap64 (a1 + a0)), (by first | rfl | (simp; done) | (simp [*]; done)), H', ⟨by first | omega | exact Nat.le_refl _⟩, ⟨(qdb35_ HB.out)⟩⟩
  ·rw [if_neg c5] at H
   have c5b0 : decide (a1 < 0) = false := decide_eq_false c5
   clear c5
   (first | rw [c5b0] | (simp only [i64_w, i32_w]; rw [c5b0]) | skip)
   have H' := Aside0.mk H
   clear H
   go_wp2
   go_meet
   case rel => exact ⟨_, (a1), (by first | rfl | (simp; done) | (simp [*]; done)), H', ⟨by first | omega | exact Nat.le_refl _⟩, ⟨(qdb35_ HB.out)⟩⟩
 case rest =>
  clear HC4
  try clear c2
  try clear p2
  try clear c5
  try clear c5b0
  obtain ⟨kq, x1_3, rfl, HA, HJ3, HB⟩ := hcut
  cases kq with
  | zero => exact absurd HA.out (by simp [text_Range.j0])
  | succ kj3 =>
   have H := HA.out
   clear HA
   simp only [text_Range.j0] at H
   by_cases c6 : a2 < 0
   ·rw [if_pos c6] at H
    have c6b0 : decide (a2 < 0) = true := decide_eq_true c6
    clear c6
    obtain ⟨ji7, hji7⟩ : ∃ j_ : Int, (mx x1_3 0) = j_ := ⟨_, rfl⟩
    replace H : (if (ji7) ≥ (wrap64 ((mn (wrap64 (a2 + a0)) (wrap64 (a0 - 1))) + 1)) then (some (0, 0)) else (some (ji7, wrap64 ((mn (wrap64 (a2 + a0)) (wrap64 (a0 - 1))) + 1)))) = some (r1, r2) := by first | (rw [hji7] at H; exact H) | (simp only [hji7] at H ⊢; exact H)
    have hji7_ : (if x1_3 < 0 then 0 else x1_3) = ji7 := hji7
    obtain ⟨ji8, hji8⟩ : ∃ j_ : Int, (mn (wrap64 (a2 + a0)) (wrap64 (a0 - 1))) = j_ := ⟨_, rfl⟩
    replace H : (if (ji7) ≥ (wrap64 ((ji8) + 1)) then (some (0, 0)) else (some (ji7, wrap64 ((ji8) + 1)))) = some (r1, r2) := by first | (rw [hji8] at H; exact H) | (simp only [hji8] at H ⊢; exact H)
    have hji8_ : (if (wrap64 (a0 - 1)) < (wrap64 (a2 + a0)) then (wrap64 (a0 - 1)) else (wrap64 (a2 + a0))) = ji8 := hji8
    by_cases c9 : (ji7) ≥ (wrap64 ((ji8) + 1))
    ·rw [if_pos c9] at H
     have c9b0 : decide ((wrap64 ((ji8) + 1)) ≤ (ji7)) = true := decide_eq_true c9
     clear c9
     simp only [Option.some.injEq, Prod.mk.injEq] at H
     obtain ⟨rfl, rfl⟩ := H
     go_wp2
     go_ret2
     exact ⟨by first | rfl | (simp [errW_none, errW_some] <;> rfl) | (simp only [← hji7, ← hji8]; first | rfl | (simp [errW_none, errW_some] <;> rfl)) | (simp [*, errW_none, errW_some] <;> rfl), (qdb35_ HB.out)⟩
    ·rw [if_neg c9] at H
     have c9b0 : decide ((wrap64 ((ji8) + 1)) ≤ (ji7)) = false := decide_eq_false c9
     clear c9
     simp only [Option.some.injEq, Prod.mk.injEq] at H
     obtain ⟨rfl, rfl⟩ := H
     go_wp2
     go_ret2
     exact ⟨by first | rfl | (simp [errW_none, errW_some] <;> rfl) | (simp only [← hji7, ← hji8]; first | rfl | (simp [errW_none, errW_some] <;> rfl)) | (simp [*, errW_none, errW_some] <;> rfl), (qdb35_ HB.out)⟩
   ·rw [if_neg c6] at H
    have c6b0 : decide (a2 < 0) = false := decide_eq_false c6
    clear c6
    obtain ⟨ji10, hji10⟩ : ∃ j_ : Int, (mx x1_3 0) = j_ := ⟨_, rfl⟩
    replace H : (if (ji10) ≥ (wrap64 ((mn a2 (wrap64 (a0 - 1))) + 1)) then (some (0, 0)) else (some (ji10, wrap64 ((mn a2 (wrap64 (a0 - 1))) + 1)))) = some (r1, r2) := by first | (rw [hji10] at H; exact H) | (simp only [hji10] at H ⊢; exact H)
    have hji10_ : (if x1_3 < 0 then 0 else x1_3) = ji10 := hji10
    obtain ⟨ji11, hji11⟩ : ∃ j_ : Int, (mn a2 (wrap64 (a0 - 1))) = j_ := ⟨_, rfl⟩
    replace H : (if (ji10) ≥ (wrap64 ((ji11) + 1)) then (some (0, 0)) else (some (ji10, wrap64 ((ji11) + 1)))) = some (r1, r2) := by first | (rw [hji11] at H; exact H) | (simp only [hji11] at H ⊢; exact H)
    have hji11_ : (if (wrap64 (a0 - 1)) < a2 then (wrap64 (a0 - 1)) else a2) = ji11 := hji11
    by_cases c12 : (ji10) ≥ (wrap64 ((ji11) + 1))
    ·rw [if_pos c12] at H
     have c12b0 : decide ((wrap64 ((ji11) + 1)) ≤ (ji10)) = true := decide_eq_true c12
     clear c12
     simp only [Option.some.injEq, Prod.mk.injEq] at H
     obtain ⟨rfl, rfl⟩ := H
     go_wp2
     go_ret2
     exact ⟨by first | rfl | (simp [errW_none, errW_some] <;> rfl) | (simp only [← hji10, ← hji11]; first | rfl | (simp [errW_none, errW_some] <;> rfl)) | (simp [*, errW_none, errW_some] <;> rfl), (qdb35_ HB.out)⟩
    ·rw [if_neg c12] at H
     have c12b0 : decide ((wrap64 ((ji11) + 1)) ≤ (ji10)) = false := decide_eq_false c12
     clear c12
     simp only [Option.some.injEq, Prod.mk.injEq] at H
     obtain ⟨rfl, rfl⟩ := H
     go_wp2
     go_ret2
     exact ⟨by first | rfl | (simp [errW_none, errW_some] <;> rfl) | (simp only [← hji10, ← hji11]; first | rfl | (simp [errW_none, errW_some] <;> rfl)) | (simp [*, errW_none, errW_some] <;> rfl), (qdb35_ HB.out)⟩

/-! ### text_Sub: function 15 -/
def text_Sub.f (k : Nat) (a0 : ByteArray) (a1 : Int) (a2 : Int) : Option (ByteArray) := (text_Range.f k (a0.size : Int) a1 a2).bind fun bt107 => (if 0 ≤ bt107.1 then (if bt107.1 ≤ bt107.2 then (if bt107.2 ≤ (a0.size : Int) then (some (a0.extract (bt107.1 : Int).toNat (bt107.2 : Int).toNat)) else (none)) else (none)) else (none))
theorem text_Sub.mono : ∀ a0 a1 a2 k, LeO (text_Sub.f k a0 a1 a2) (text_Sub.f (k + 1) a0 a1 a2) := by
 intro a0 a1 a2 k
 unfold text_Sub.f
 repeat' first
  | (with_reducible exact text_Range.mono _ _ _ _)
  | (with_reducible exact LeO.refl _)
  | (with_reducible exact LeO.none _)
  | (with_reducible refine LeO.ite ?_ ?_)
  | (with_reducible refine LeO.bind ?_ (fun _ => ?_))
  | exact text_Range.mono _ _ _ _
  | exact LeO.none _
  | refine LeO.ite ?_ ?_
  | refine LeO.bind ?_ (fun _ => ?_)
set_option maxHeartbeats 8000000 in
set_option maxRecDepth 100000 in
theorem text_Sub.calls (k : Nat) (a0 : ByteArray) (a1 : Int) (a2 : Int) (r : ByteArray) (w : World) (h : text_Sub.f k a0 a1 a2 = some r) :
 Calls Tryd.prog 15 #[.string a0, .int .i64 a1, .int .i64 a2] w fun e w' => e = .returned (.string r) ∧ Below w.heap.size w w' := by
 have HB := Aside0.mk (Below.refl w.heap.size w)
 have H : ((text_Range.f k (a0.size : Int) a1 a2).bind fun bt107 => (if 0 ≤ bt107.1 then (if bt107.1 ≤ bt107.2 then (if bt107.2 ≤ (a0.size : Int) then (some (a0.extract (bt107.1 : Int).toNat (bt107.2 : Int).toNat)) else (none)) else (none)) else (none))) = some r := h
 clear h
 replace H := Option.bind_eq_some_iff.mp H
 obtain ⟨⟨t107, t108⟩, A40, H⟩ := H
 replace H : (if 0 ≤ t107 then (if t107 ≤ t108 then (if t108 ≤ (a0.size : Int) then (some (a0.extract (t107 : Int).toNat (t108 : Int).toNat)) else (none)) else (none)) else (none)) = some r := H
 have A4 := Aside0.mk A40
 clear A40
 by_cases c5 : 0 ≤ t107
 ·rw [if_pos c5] at H
  have c5b0 := eq_true c5
  have c5b1 : decide (0 ≤ t107) = true := decide_eq_true c5
  clear c5
  by_cases c6 : t107 ≤ t108
  ·rw [if_pos c6] at H
   have c6b0 := eq_true c6
   have c6b1 : decide (t107 ≤ t108) = true := decide_eq_true c6
   clear c6
   by_cases c7 : t108 ≤ (a0.size : Int)
   ·rw [if_pos c7] at H
    have c7b0 := eq_true c7
    have c7b1 : decide (t108 ≤ (a0.size : Int)) = true := decide_eq_true c7
    clear c7
    obtain rfl := Option.some.inj H
    go_enter Tryd.func15, Tryd.ntmps15
    go_wp2_with (first | ((with_reducible refine gate_callee (f := 20) rfl ?_); refine goesL_ (some 14) rfl rfl Tryd.func20 (by kernel_rfl) rfl #[.int .i64 (a0.size : Int), .int .i64 a1, .int .i64 a2] rfl qM_ ?_; (with_reducible refine (text_Range.calls k (a0.size : Int) a1 a2 t107 t108 _ A4.out).mono ?_); rintro e w8 ⟨rfl, hb⟩; refine ⟨_, rfl, ?_⟩; have n0_ := Aside0.mk (below_step (qdb35_ HB.out) hb); clear HB; have HB := n0_; clear n0_; (try clear hb); (try clear hb2); (try clear hk); (try clear hi)))
    go_ret
    exact ⟨by first | rfl | (simp [errW_none, errW_some] <;> rfl) | (simp [*, errW_none, errW_some] <;> rfl), (qdb35_ HB.out)⟩
   ·rw [if_neg c7] at H
    exact absurd H (by simp)
  ·rw [if_neg c6] at H
   exact absurd H (by simp)
 ·rw [if_neg c5] at H
  exact absurd H (by simp)

/-! ### caravanlaw6_awake: function 9 -/
def caravanlaw6_awake.f (k : Nat)  : Option (Bool) := (text_Sub.f k (⟨#[97, 98, 99]⟩ : ByteArray) (-2) (-1)).bind fun t109 => (some (t109.toList == ([98, 99] : List UInt8)))
theorem caravanlaw6_awake.mono : ∀ k, LeO (caravanlaw6_awake.f k ) (caravanlaw6_awake.f (k + 1) ) := by
 intro  k
 unfold caravanlaw6_awake.f
 repeat' first
  | (with_reducible exact text_Sub.mono _ _ _ _)
  | (with_reducible exact LeO.refl _)
  | (with_reducible exact LeO.none _)
  | (with_reducible refine LeO.ite ?_ ?_)
  | (with_reducible refine LeO.bind ?_ (fun _ => ?_))
  | exact text_Sub.mono _ _ _ _
  | exact LeO.none _
  | refine LeO.ite ?_ ?_
  | refine LeO.bind ?_ (fun _ => ?_)
set_option maxHeartbeats 8000000 in
set_option maxRecDepth 100000 in
theorem caravanlaw6_awake.calls (k : Nat)  (r : Bool) (w : World) (h : caravanlaw6_awake.f k  = some r) :
 Calls Tryd.prog 9 #[] w fun e w' => e = .returned (.bool r) ∧ Below w.heap.size w w' := by
 have HB := Aside0.mk (Below.refl w.heap.size w)
 have H : ((text_Sub.f k (⟨#[97, 98, 99]⟩ : ByteArray) (-2) (-1)).bind fun t109 => (some (t109.toList == ([98, 99] : List UInt8)))) = some r := h
 clear h
 replace H := Option.bind_eq_some_iff.mp H
 obtain ⟨t109, A10, H⟩ := H
 replace H : (some (t109.toList == ([98, 99] : List UInt8))) = some r := H
 have A1 := Aside0.mk A10
 clear A10
 obtain rfl := Option.some.inj H
 go_enter Tryd.func9, Tryd.ntmps9
 go_wp2_with (first | ((with_reducible refine gate_callee (f := 15) rfl ?_); refine goesL_ (some 1) rfl rfl Tryd.func15 (by kernel_rfl) rfl #[.string (⟨#[97, 98, 99]⟩ : ByteArray), .int .i64 (-2), .int .i64 (-1)] rfl qM_ ?_; (with_reducible refine (text_Sub.calls k (⟨#[97, 98, 99]⟩ : ByteArray) (-2) (-1) t109 _ A1.out).mono ?_); rintro e w2 ⟨rfl, hb⟩; refine ⟨_, rfl, ?_⟩; have n0_ := Aside0.mk (below_step (qdb35_ HB.out) hb); clear HB; have HB := n0_; clear n0_; (try clear hb); (try clear hb2); (try clear hk); (try clear hi)))
 go_ret
 exact ⟨by first | rfl | (simp [errW_none, errW_some] <;> rfl) | (simp [*, errW_none, errW_some] <;> rfl), (qdb35_ HB.out)⟩

/-! ### caravanlaw6_TextNumbers: function 3 -/
def caravanlaw6_TextNumbers.f (k : Nat) (a0 : Int) (a1 : Int) : Option (Bool) := (caravanref1_Digits.f k a0).bind fun t110 => ((text_Number.f t110).bind fun bt111 => (if 1 + t110.size ≤ 9223372036854775807 then (if t110.size + 1 ≤ 9223372036854775807 then (if 2 + t110.size ≤ 9223372036854775807 then (if t110.size + 2 ≤ 9223372036854775807 then ((some (([(⟨#[43]⟩ : ByteArray) ++ t110, (⟨#[32]⟩ : ByteArray) ++ t110, t110 ++ (⟨#[32]⟩ : ByteArray), (⟨#[48]⟩ : ByteArray) ++ t110, (⟨#[45, 48]⟩ : ByteArray) ++ t110, t110 ++ (⟨#[46]⟩ : ByteArray), (⟨#[45, 45]⟩ : ByteArray) ++ t110, t110 ++ (⟨#[95, 49]⟩ : ByteArray), (⟨#[48, 120]⟩ : ByteArray) ++ t110] : List ByteArray) : List ByteArray)).bind fun y113 => (if 0 ≤ (Int.tmod a1 9) then (if (Int.tmod a1 9) < (y113.length : Int) then ((text_Number.f (rdOf ByteArray.empty y113 (Int.tmod a1 9))).bind fun bt117 => (if bt111.2 = true then (if bt111.1 = a0 then (if bt117.2 = true then (some false) else (if bt117.1 = 0 then ((caravanlaw6_awake.f k).bind fun t119 => (some t119)) else (some false))) else (some false)) else (some false))) else (none)) else (none))) else (none)) else (none)) else (none)) else (none)))
theorem caravanlaw6_TextNumbers.mono : ∀ a0 a1 k, LeO (caravanlaw6_TextNumbers.f k a0 a1) (caravanlaw6_TextNumbers.f (k + 1) a0 a1) := by
 intro a0 a1 k
 unfold caravanlaw6_TextNumbers.f
 repeat' first
  | (with_reducible exact caravanlaw6_awake.mono _)
  | (with_reducible exact caravanref1_Digits.mono _ _)
  | (with_reducible exact LeO.refl _)
  | (with_reducible exact LeO.none _)
  | (with_reducible refine LeO.ite ?_ ?_)
  | (with_reducible refine LeO.bind ?_ (fun _ => ?_))
  | exact caravanlaw6_awake.mono _
  | exact caravanref1_Digits.mono _ _
  | exact LeO.none _
  | refine LeO.ite ?_ ?_
  | refine LeO.bind ?_ (fun _ => ?_)
set_option maxHeartbeats 8000000 in
set_option maxRecDepth 100000 in
theorem caravanlaw6_TextNumbers.calls (k : Nat) (a0 : Int) (a1 : Int) (r : Bool) (w : World) (h : caravanlaw6_TextNumbers.f k a0 a1 = some r) (hrt_ : r = true) (hWd_ : Wd w) :
 Calls Tryd.prog 3 #[.int .i64 a0, .int .u8 a1] w fun e w' => e = .returned (.bool r) ∧ Below w.heap.size w w' := by
 have HB := Aside0.mk (Below.refl w.heap.size w)
 have H : ((caravanref1_Digits.f k a0).bind fun t110 => ((text_Number.f t110).bind fun bt111 => (if 1 + t110.size ≤ 9223372036854775807 then (if t110.size + 1 ≤ 9223372036854775807 then (if 2 + t110.size ≤ 9223372036854775807 then (if t110.size + 2 ≤ 9223372036854775807 then ((some (([(⟨#[43]⟩ : ByteArray) ++ t110, (⟨#[32]⟩ : ByteArray) ++ t110, t110 ++ (⟨#[32]⟩ : ByteArray), (⟨#[48]⟩ : ByteArray) ++ t110, (⟨#[45, 48]⟩ : ByteArray) ++ t110, t110 ++ (⟨#[46]⟩ : ByteArray), (⟨#[45, 45]⟩ : ByteArray) ++ t110, t110 ++ (⟨#[95, 49]⟩ : ByteArray), (⟨#[48, 120]⟩ : ByteArray) ++ t110] : List ByteArray) : List ByteArray)).bind fun y113 => (if 0 ≤ (Int.tmod a1 9) then (if (Int.tmod a1 9) < (y113.length : Int) then ((text_Number.f (rdOf ByteArray.empty y113 (Int.tmod a1 9))).bind fun bt117 => (if bt111.2 = true then (if bt111.1 = a0 then (if bt117.2 = true then (some false) else (if bt117.1 = 0 then ((caravanlaw6_awake.f k).bind fun t119 => (some t119)) else (some false))) else (some false)) else (some false))) else (none)) else (none))) else (none)) else (none)) else (none)) else (none)))) = some r := h
 clear h
 replace H := Option.bind_eq_some_iff.mp H
 obtain ⟨t110, A30, H⟩ := H
 replace H : ((text_Number.f t110).bind fun bt111 => (if 1 + t110.size ≤ 9223372036854775807 then (if t110.size + 1 ≤ 9223372036854775807 then (if 2 + t110.size ≤ 9223372036854775807 then (if t110.size + 2 ≤ 9223372036854775807 then ((some (([(⟨#[43]⟩ : ByteArray) ++ t110, (⟨#[32]⟩ : ByteArray) ++ t110, t110 ++ (⟨#[32]⟩ : ByteArray), (⟨#[48]⟩ : ByteArray) ++ t110, (⟨#[45, 48]⟩ : ByteArray) ++ t110, t110 ++ (⟨#[46]⟩ : ByteArray), (⟨#[45, 45]⟩ : ByteArray) ++ t110, t110 ++ (⟨#[95, 49]⟩ : ByteArray), (⟨#[48, 120]⟩ : ByteArray) ++ t110] : List ByteArray) : List ByteArray)).bind fun y113 => (if 0 ≤ (Int.tmod a1 9) then (if (Int.tmod a1 9) < (y113.length : Int) then ((text_Number.f (rdOf ByteArray.empty y113 (Int.tmod a1 9))).bind fun bt117 => (if bt111.2 = true then (if bt111.1 = a0 then (if bt117.2 = true then (some false) else (if bt117.1 = 0 then ((caravanlaw6_awake.f k).bind fun t119 => (some t119)) else (some false))) else (some false)) else (some false))) else (none)) else (none))) else (none)) else (none)) else (none)) else (none))) = some r := H
 have A3 := Aside0.mk A30
 clear A30
 replace H := Option.bind_eq_some_iff.mp H
 obtain ⟨⟨t111, t112⟩, A40, H⟩ := H
 replace H : (if 1 + t110.size ≤ 9223372036854775807 then (if t110.size + 1 ≤ 9223372036854775807 then (if 2 + t110.size ≤ 9223372036854775807 then (if t110.size + 2 ≤ 9223372036854775807 then ((some (([(⟨#[43]⟩ : ByteArray) ++ t110, (⟨#[32]⟩ : ByteArray) ++ t110, t110 ++ (⟨#[32]⟩ : ByteArray), (⟨#[48]⟩ : ByteArray) ++ t110, (⟨#[45, 48]⟩ : ByteArray) ++ t110, t110 ++ (⟨#[46]⟩ : ByteArray), (⟨#[45, 45]⟩ : ByteArray) ++ t110, t110 ++ (⟨#[95, 49]⟩ : ByteArray), (⟨#[48, 120]⟩ : ByteArray) ++ t110] : List ByteArray) : List ByteArray)).bind fun y113 => (if 0 ≤ (Int.tmod a1 9) then (if (Int.tmod a1 9) < (y113.length : Int) then ((text_Number.f (rdOf ByteArray.empty y113 (Int.tmod a1 9))).bind fun bt117 => (if t112 = true then (if t111 = a0 then (if bt117.2 = true then (some false) else (if bt117.1 = 0 then ((caravanlaw6_awake.f k).bind fun t119 => (some t119)) else (some false))) else (some false)) else (some false))) else (none)) else (none))) else (none)) else (none)) else (none)) else (none)) = some r := H
 have A4 := Aside0.mk A40
 clear A40
 by_cases c5 : 1 + t110.size ≤ 9223372036854775807
 ·rw [if_pos c5] at H
  have c5b0 := eq_true c5
  have c5b1 : decide (1 + t110.size ≤ 9223372036854775807) = true := decide_eq_true c5
  try have c5b2 : (9223372036854775807 < 1 + t110.size) = False := eq_false (Nat.not_lt.2 c5)
  by_cases c6 : t110.size + 1 ≤ 9223372036854775807
  ·rw [if_pos c6] at H
   have c6b0 := eq_true c6
   have c6b1 : decide (t110.size + 1 ≤ 9223372036854775807) = true := decide_eq_true c6
   try have c6b2 : (9223372036854775807 < t110.size + 1) = False := eq_false (Nat.not_lt.2 c6)
   by_cases c7 : 2 + t110.size ≤ 9223372036854775807
   ·rw [if_pos c7] at H
    have c7b0 := eq_true c7
    have c7b1 : decide (2 + t110.size ≤ 9223372036854775807) = true := decide_eq_true c7
    try have c7b2 : (9223372036854775807 < 2 + t110.size) = False := eq_false (Nat.not_lt.2 c7)
    by_cases c8 : t110.size + 2 ≤ 9223372036854775807
    ·rw [if_pos c8] at H
     have c8b0 := eq_true c8
     have c8b1 : decide (t110.size + 2 ≤ 9223372036854775807) = true := decide_eq_true c8
     try have c8b2 : (9223372036854775807 < t110.size + 2) = False := eq_false (Nat.not_lt.2 c8)
     obtain ⟨y113, hy113⟩ : ∃ y_ : List ByteArray, y_ = (([(⟨#[43]⟩ : ByteArray) ++ t110, (⟨#[32]⟩ : ByteArray) ++ t110, t110 ++ (⟨#[32]⟩ : ByteArray), (⟨#[48]⟩ : ByteArray) ++ t110, (⟨#[45, 48]⟩ : ByteArray) ++ t110, t110 ++ (⟨#[46]⟩ : ByteArray), (⟨#[45, 45]⟩ : ByteArray) ++ t110, t110 ++ (⟨#[95, 49]⟩ : ByteArray), (⟨#[48, 120]⟩ : ByteArray) ++ t110] : List ByteArray)) := ⟨_, rfl⟩
     replace H : (if 0 ≤ (Int.tmod a1 9) then (if (Int.tmod a1 9) < (y113.length : Int) then ((text_Number.f (rdOf ByteArray.empty y113 (Int.tmod a1 9))).bind fun bt117 => (if t112 = true then (if t111 = a0 then (if bt117.2 = true then (some false) else (if bt117.1 = 0 then ((caravanlaw6_awake.f k).bind fun t119 => (some t119)) else (some false))) else (some false)) else (some false))) else (none)) else (none)) = some r := by first | (rw [hy113]; with_reducible exact H) | (have H2_ := (Option.bind_some _ _).symm.trans H; rw [hy113]; with_reducible exact H2_) | (have H2_ := (Option.bind_some _ _).symm.trans H; with_reducible exact H2_) | with_reducible exact H | (rw [hy113]; exact H) | exact H
     have Ny113 := Aside0.mk hy113
     clear hy113
     obtain ⟨ji9, hji9⟩ : ∃ j_ : Int, (Int.tmod a1 9) = j_ := ⟨_, rfl⟩
     replace H : (if 0 ≤ (ji9) then (if (ji9) < (y113.length : Int) then ((text_Number.f (rdOf ByteArray.empty y113 (ji9))).bind fun bt117 => (if t112 = true then (if t111 = a0 then (if bt117.2 = true then (some false) else (if bt117.1 = 0 then ((caravanlaw6_awake.f k).bind fun t119 => (some t119)) else (some false))) else (some false)) else (some false))) else (none)) else (none)) = some r := by first | (rw [hji9] at H; exact H) | (simp only [hji9] at H ⊢; exact H)
     (try rw [hji9] at A3)
     (try rw [hji9] at A4)
     by_cases c10 : 0 ≤ (ji9)
     ·rw [if_pos c10] at H
      have c10b0 : decide (0 ≤ (ji9)) = true := decide_eq_true c10
      clear c10
      by_cases c11 : (ji9) < (y113.length : Int)
      ·rw [if_pos c11] at H
       have c11b0 : decide ((ji9) < (y113.length : Int)) = true := decide_eq_true c11
       clear c11
       replace H := Option.bind_eq_some_iff.mp H
       obtain ⟨⟨t117, t118⟩, A120, H⟩ := H
       replace H : (if t112 = true then (if t111 = a0 then (if t118 = true then (some false) else (if t117 = 0 then ((caravanlaw6_awake.f k).bind fun t119 => (some t119)) else (some false))) else (some false)) else (some false)) = some r := H
       have A12 := Aside0.mk A120
       clear A120
       by_cases c13 : t112 = true
       ·subst c13
        have H1 : (if t111 = a0 then (if t118 = true then (some false) else (if t117 = 0 then ((caravanlaw6_awake.f k).bind fun t119 => (some t119)) else (some false))) else (some false)) = some r := by rw [if_pos rfl] at H; exact H
        clear H
        have H := H1
        clear H1
        by_cases c14 : t111 = a0
        ·rw [if_pos c14] at H
         have c14b0 : (t111 == a0) = true := beq_iff_eq.mpr c14
         have c14b1 : (t111 != a0) = false := bne_eq_false_iff_eq.mpr c14
         clear c14
         by_cases c15 : t118 = true
         ·subst c15
          have H1 : (some false) = some r := by rw [if_pos rfl] at H; exact H
          clear H
          have H := H1
          clear H1
          subst hrt_; exact absurd H (by simp)
         ·replace c15 := Bool.eq_false_iff.mpr c15
          subst c15
          have H1 : (if t117 = 0 then ((caravanlaw6_awake.f k).bind fun t119 => (some t119)) else (some false)) = some r := by rw [if_neg (show ¬ (false = true) by decide)] at H; exact H
          clear H
          have H := H1
          clear H1
          by_cases c16 : t117 = 0
          ·rw [if_pos c16] at H
           have c16b0 : (t117 == 0) = true := beq_iff_eq.mpr c16
           have c16b1 : (t117 != 0) = false := bne_eq_false_iff_eq.mpr c16
           clear c16
           replace H := Option.bind_eq_some_iff.mp H
           obtain ⟨t119, A170, H⟩ := H
           replace H : (some t119) = some r := H
           have A17 := Aside0.mk A170
           clear A170
           obtain rfl := Option.some.inj H
           go_enter Tryd.func3, Tryd.ntmps3
           go_wp2_with (first | ((with_reducible refine gate_callee (f := 7) rfl ?_); refine goesL_ (some 11) rfl rfl Tryd.func7 (by kernel_rfl) rfl #[.int .i64 a0] rfl qM_ ?_; (with_reducible refine (caravanref1_Digits.calls k a0 t110 _ A3.out).mono ?_); rintro e w18 ⟨rfl, hb⟩; refine ⟨_, rfl, ?_⟩; have n0_ := Aside0.mk (below_step (qdb35_ HB.out) hb); clear HB; have HB := n0_; clear n0_; (try clear hb); (try clear hb2); (try clear hk); (try clear hi)) | ((with_reducible refine gate_callee (f := 8) rfl ?_); refine goesL_ (some 14) rfl rfl Tryd.func8 (by kernel_rfl) rfl #[.string t110] rfl qM_ ?_; (with_reducible refine (text_Number.calls t110 t111 true _ A4.out (Wd.of hWd_ (qdb35_ HB.out))).mono ?_); rintro e w19 ⟨rfl, hb⟩; refine ⟨_, rfl, ?_⟩; have n0_ := Aside0.mk (below_step (qdb35_ HB.out) hb); clear HB; have HB := n0_; clear n0_; (try clear hb); (try clear hb2); (try clear hk); (try clear hi)) | ((with_reducible refine gate_dst (N := 36) rfl ?_); refine Kd.R_lit Kd.string _ 9 ?hg (N := 36) ?hd (xs := ([(⟨#[43]⟩ : ByteArray) ++ t110, (⟨#[32]⟩ : ByteArray) ++ t110, t110 ++ (⟨#[32]⟩ : ByteArray), (⟨#[48]⟩ : ByteArray) ++ t110, (⟨#[45, 48]⟩ : ByteArray) ++ t110, t110 ++ (⟨#[46]⟩ : ByteArray), (⟨#[45, 45]⟩ : ByteArray) ++ t110, t110 ++ (⟨#[95, 49]⟩ : ByteArray), (⟨#[48, 120]⟩ : ByteArray) ++ t110] : List ByteArray)) (inner := [.string ((⟨#[43]⟩ : ByteArray) ++ t110), .string ((⟨#[32]⟩ : ByteArray) ++ t110), .string (t110 ++ (⟨#[32]⟩ : ByteArray)), .string ((⟨#[48]⟩ : ByteArray) ++ t110), .string ((⟨#[45, 48]⟩ : ByteArray) ++ t110), .string (t110 ++ (⟨#[46]⟩ : ByteArray)), .string ((⟨#[45, 45]⟩ : ByteArray) ++ t110), .string (t110 ++ (⟨#[95, 49]⟩ : ByteArray)), .string ((⟨#[48, 120]⟩ : ByteArray) ++ t110)]) (ok := fun _ => True) (okp := fun _ => True) ?hr ?hp (fun _ hk => hk) trivial (Below.refl _ _) (Nat.le_refl _) (by simp) ?_; (case hd => rfl); (case hg => rfl); (case hr => first | (go_simp; done) | (go_simp; rfl)); (case hp => exact (Reps.one (show Kd.M Kd.string _ _ _ ((⟨#[43]⟩ : ByteArray) ++ t110) [.string ((⟨#[43]⟩ : ByteArray) ++ t110)] from rfl) (Reps.one (show Kd.M Kd.string _ _ _ ((⟨#[32]⟩ : ByteArray) ++ t110) [.string ((⟨#[32]⟩ : ByteArray) ++ t110)] from rfl) (Reps.one (show Kd.M Kd.string _ _ _ (t110 ++ (⟨#[32]⟩ : ByteArray)) [.string (t110 ++ (⟨#[32]⟩ : ByteArray))] from rfl) (Reps.one (show Kd.M Kd.string _ _ _ ((⟨#[48]⟩ : ByteArray) ++ t110) [.string ((⟨#[48]⟩ : ByteArray) ++ t110)] from rfl) (Reps.one (show Kd.M Kd.string _ _ _ ((⟨#[45, 48]⟩ : ByteArray) ++ t110) [.string ((⟨#[45, 48]⟩ : ByteArray) ++ t110)] from rfl) (Reps.one (show Kd.M Kd.string _ _ _ (t110 ++ (⟨#[46]⟩ : ByteArray)) [.string (t110 ++ (⟨#[46]⟩ : ByteArray))] from rfl) (Reps.one (show Kd.M Kd.string _ _ _ ((⟨#[45, 45]⟩ : ByteArray) ++ t110) [.string ((⟨#[45, 45]⟩ : ByteArray) ++ t110)] from rfl) (Reps.one (show Kd.M Kd.string _ _ _ (t110 ++ (⟨#[95, 49]⟩ : ByteArray)) [.string (t110 ++ (⟨#[95, 49]⟩ : ByteArray))] from rfl) (Reps.one (show Kd.M Kd.string _ _ _ ((⟨#[48, 120]⟩ : ByteArray) ++ t110) [.string ((⟨#[48, 120]⟩ : ByteArray) ++ t110)] from rfl) (Reps.none _ _))))))))))); intro v114 w20 ho21 hb hg_ hnew_; clear hg_ hnew_; (first | rw [← Ny113.out] at ho21 | (simp only [Int.reduceToNat] at ho21; rw [← Ny113.out] at ho21)); have n0_ := Aside0.mk (Kd.R_lower ho21 (below_size (qdb35_ HB.out))); have n1_ := Aside0.mk (below_step (qdb35_ HB.out) hb); clear HB; have HO115 := n0_; have HB := n1_; clear n0_ n1_; clear hb ho21; obtain ⟨Ao22, co22, eo22⟩ := Kd.R_slice HO115.out; subst eo22; have p116 : 0 ≤ ((ji9) : Int) := of_decide_eq_true (by first | (with_reducible assumption) | assumption); have q116 : (ji9) < (y113.length : Int) := of_decide_eq_true (by first | (with_reducible assumption) | assumption); obtain ⟨ad116, e116, hx116_0⟩ := Kd.at_string (Kd.R_reads' HO115.out).2.2 (ji9) p116 q116; cases e116; replace p116 := eq_true p116; replace q116 := eq_true q116) | ((with_reducible refine gate_callee (f := 8) rfl ?_); refine goesL_ (some 41) rfl rfl Tryd.func8 (by kernel_rfl) rfl #[.string (rdOf ByteArray.empty y113 (ji9))] rfl (by (try simp only [List.map_toArray, List.map_cons, List.map_nil]); first | done | (simp only [hji9]; rfl) | rfl | (simp only [List.length_drop, List.length_take]; rfl)) ?_; (with_reducible refine (text_Number.calls (rdOf ByteArray.empty y113 (ji9)) t117 false _ A12.out (Wd.of hWd_ (qdb35_ HB.out))).mono ?_); rintro e w23 ⟨rfl, hb⟩; refine ⟨_, rfl, ?_⟩; have n0_ := Aside0.mk (Kd.R_below (by (with_reducible repeat (first | apply Kd.R_alloc | apply Kd.R_drewN | apply Kd.R_drew)); exact HO115.out) hb); have n1_ := Aside0.mk (below_step (qdb35_ HB.out) hb); clear HO115; clear HB; have HO115 := n0_; have HB := n1_; clear n0_ n1_; (try clear hb); (try clear hb2); (try clear hk); (try clear hi)) | (go_at_call 9; (with_reducible refine (caravanlaw6_awake.calls k  t119 _ A17.out).mono ?_); rintro e w24 ⟨rfl, hb⟩; have n0_ := Aside0.mk (Kd.R_below (by (with_reducible repeat (first | apply Kd.R_alloc | apply Kd.R_drewN | apply Kd.R_drew)); exact HO115.out) hb); have n1_ := Aside0.mk (below_step (qdb35_ HB.out) hb); clear HO115; clear HB; have HO115 := n0_; have HB := n1_; clear n0_ n1_; (try clear hb); (try clear hb2); (try clear hk); (try clear hi)))
           go_ret
           exact ⟨by first | rfl | (simp [errW_none, errW_some] <;> rfl) | (simp only [← hji9]; first | rfl | (simp [errW_none, errW_some] <;> rfl)) | (simp [*, errW_none, errW_some] <;> rfl), (qdb35_ HB.out)⟩
          ·rw [if_neg c16] at H
           have c16b0 : (t117 == 0) = false := beq_eq_false_iff_ne.mpr c16
           have c16b1 : (t117 != 0) = true := bne_iff_ne.mpr c16
           subst hrt_; exact absurd H (by simp)
        ·rw [if_neg c14] at H
         have c14b0 : (t111 == a0) = false := beq_eq_false_iff_ne.mpr c14
         have c14b1 : (t111 != a0) = true := bne_iff_ne.mpr c14
         subst hrt_; exact absurd H (by simp)
       ·replace c13 := Bool.eq_false_iff.mpr c13
        subst c13
        have H1 : (some false) = some r := by rw [if_neg (show ¬ (false = true) by decide)] at H; exact H
        clear H
        have H := H1
        clear H1
        subst hrt_; exact absurd H (by simp)
      ·rw [if_neg c11] at H
       exact absurd H (by simp)
     ·rw [if_neg c10] at H
      exact absurd H (by simp)
    ·rw [if_neg c8] at H
     exact absurd H (by simp)
   ·rw [if_neg c7] at H
    exact absurd H (by simp)
  ·rw [if_neg c6] at H
   exact absurd H (by simp)
 ·rw [if_neg c5] at H
  exact absurd H (by simp)

/-- THE ONE PURE STATEMENT of caravanlaw6_TextNumbers: yours. -/
def caravanlaw6_TextNumbers.Pure : Prop := ∀ (a0 : Int) (a1 : Int), (Lit.int .i64 a0).wf = true → (Lit.int .u8 a1).wf = true → ∃ k, caravanlaw6_TextNumbers.f k a0 a1 = some true
theorem caravanlaw6_TextNumbers.walk (P : caravanlaw6_TextNumbers.Pure) (a0 : Int) (a1 : Int) (w : World) (hWd_ : Wd w) (w0 : (Lit.int .i64 a0).wf = true) (w1 : (Lit.int .u8 a1).wf = true) :
 Calls Tryd.prog 3 #[.int .i64 a0, .int .u8 a1] w fun e w' => e = .returned (.bool true) ∧ Below w.heap.size w w' := by
 obtain ⟨k, h⟩ := P a0 a1 w0 w1
 refine (caravanlaw6_TextNumbers.calls k a0 a1 true w h rfl hWd_).mono ?_
 rintro e w' ⟨rfl, hd⟩
 exact ⟨rfl, hd⟩

/-! ### caravanlaw6_TextAdds: function 4 -/
def caravanlaw6_TextAdds.f (k : Nat) (a0 : Int) (a1 : Int) (a2 : Int) : Option (Bool) := (caravanref1_Digits.f k a0).bind fun t120 => ((text_Add.f t120 (wrap64 (a1))).bind fun bt121 => (if ((decide ((wrap64 (a0 + (wrap64 (a1)))) ≥ a0)) != (decide (a1 ≥ 0))) = true then (if bt121.2 = true then (some false) else (if bt121.1.toList = ([] : List UInt8) then ((caravanlaw6_awake.f k).bind fun t123 => (some t123)) else (some false))) else ((text_Add.f bt121.1 (wrap64 (-(wrap64 (a1))))).bind fun bt124 => ((text_Add.f (⟨#[57, 50, 50, 51, 51, 55, 50, 48, 51, 54, 56, 53, 52, 55, 55, 53, 56, 48, 55]⟩ : ByteArray) (wrap64 (1 + (wrap64 (a2))))).bind fun bt126 => ((text_Add.f (⟨#[45, 57, 50, 50, 51, 51, 55, 50, 48, 51, 54, 56, 53, 52, 55, 55, 53, 56, 48, 56]⟩ : ByteArray) (wrap64 ((-1) - (wrap64 (a2))))).bind fun bt128 => ((text_Add.f (⟨#[120]⟩ : ByteArray) 1).bind fun bt130 => (if bt121.2 = true then ((caravanref1_Digits.f k (wrap64 (a0 + (wrap64 (a1))))).bind fun t132 => (if bt121.1.toList = t132.toList then (if bt124.2 = true then ((caravanref1_Digits.f k a0).bind fun t133 => (if bt124.1.toList = t133.toList then (if bt126.2 = true then (some false) else (if bt128.2 = true then (some false) else (if bt130.2 = true then (some false) else ((caravanlaw6_awake.f k).bind fun t134 => (some t134))))) else (some false))) else (some false)) else (some false))) else (some false))))))))
theorem caravanlaw6_TextAdds.mono : ∀ a0 a1 a2 k, LeO (caravanlaw6_TextAdds.f k a0 a1 a2) (caravanlaw6_TextAdds.f (k + 1) a0 a1 a2) := by
 intro a0 a1 a2 k
 unfold caravanlaw6_TextAdds.f
 repeat' first
  | (with_reducible exact caravanlaw6_awake.mono _)
  | (with_reducible exact caravanref1_Digits.mono _ _)
  | (with_reducible exact LeO.refl _)
  | (with_reducible exact LeO.none _)
  | (with_reducible refine LeO.ite ?_ ?_)
  | (with_reducible refine LeO.bind ?_ (fun _ => ?_))
  | exact caravanlaw6_awake.mono _
  | exact caravanref1_Digits.mono _ _
  | exact LeO.none _
  | refine LeO.ite ?_ ?_
  | refine LeO.bind ?_ (fun _ => ?_)
set_option maxHeartbeats 8000000 in
set_option maxRecDepth 100000 in
theorem caravanlaw6_TextAdds.calls (k : Nat) (a0 : Int) (a1 : Int) (a2 : Int) (r : Bool) (w : World) (h : caravanlaw6_TextAdds.f k a0 a1 a2 = some r) (hrt_ : r = true) (hWd_ : Wd w) :
 Calls Tryd.prog 4 #[.int .i64 a0, .int .i32 a1, .int .u8 a2] w fun e w' => e = .returned (.bool r) ∧ Below w.heap.size w w' := by
 have HB := Aside0.mk (Below.refl w.heap.size w)
 have H : ((caravanref1_Digits.f k a0).bind fun t120 => ((text_Add.f t120 (wrap64 (a1))).bind fun bt121 => (if ((decide ((wrap64 (a0 + (wrap64 (a1)))) ≥ a0)) != (decide (a1 ≥ 0))) = true then (if bt121.2 = true then (some false) else (if bt121.1.toList = ([] : List UInt8) then ((caravanlaw6_awake.f k).bind fun t123 => (some t123)) else (some false))) else ((text_Add.f bt121.1 (wrap64 (-(wrap64 (a1))))).bind fun bt124 => ((text_Add.f (⟨#[57, 50, 50, 51, 51, 55, 50, 48, 51, 54, 56, 53, 52, 55, 55, 53, 56, 48, 55]⟩ : ByteArray) (wrap64 (1 + (wrap64 (a2))))).bind fun bt126 => ((text_Add.f (⟨#[45, 57, 50, 50, 51, 51, 55, 50, 48, 51, 54, 56, 53, 52, 55, 55, 53, 56, 48, 56]⟩ : ByteArray) (wrap64 ((-1) - (wrap64 (a2))))).bind fun bt128 => ((text_Add.f (⟨#[120]⟩ : ByteArray) 1).bind fun bt130 => (if bt121.2 = true then ((caravanref1_Digits.f k (wrap64 (a0 + (wrap64 (a1))))).bind fun t132 => (if bt121.1.toList = t132.toList then (if bt124.2 = true then ((caravanref1_Digits.f k a0).bind fun t133 => (if bt124.1.toList = t133.toList then (if bt126.2 = true then (some false) else (if bt128.2 = true then (some false) else (if bt130.2 = true then (some false) else ((caravanlaw6_awake.f k).bind fun t134 => (some t134))))) else (some false))) else (some false)) else (some false))) else (some false))))))))) = some r := h
 clear h
 replace H := Option.bind_eq_some_iff.mp H
 obtain ⟨t120, A40, H⟩ := H
 replace H : ((text_Add.f t120 (wrap64 (a1))).bind fun bt121 => (if ((decide ((wrap64 (a0 + (wrap64 (a1)))) ≥ a0)) != (decide (a1 ≥ 0))) = true then (if bt121.2 = true then (some false) else (if bt121.1.toList = ([] : List UInt8) then ((caravanlaw6_awake.f k).bind fun t123 => (some t123)) else (some false))) else ((text_Add.f bt121.1 (wrap64 (-(wrap64 (a1))))).bind fun bt124 => ((text_Add.f (⟨#[57, 50, 50, 51, 51, 55, 50, 48, 51, 54, 56, 53, 52, 55, 55, 53, 56, 48, 55]⟩ : ByteArray) (wrap64 (1 + (wrap64 (a2))))).bind fun bt126 => ((text_Add.f (⟨#[45, 57, 50, 50, 51, 51, 55, 50, 48, 51, 54, 56, 53, 52, 55, 55, 53, 56, 48, 56]⟩ : ByteArray) (wrap64 ((-1) - (wrap64 (a2))))).bind fun bt128 => ((text_Add.f (⟨#[120]⟩ : ByteArray) 1).bind fun bt130 => (if bt121.2 = true then ((caravanref1_Digits.f k (wrap64 (a0 + (wrap64 (a1))))).bind fun t132 => (if bt121.1.toList = t132.toList then (if bt124.2 = true then ((caravanref1_Digits.f k a0).bind fun t133 => (if bt124.1.toList = t133.toList then (if bt126.2 = true then (some false) else (if bt128.2 = true then (some false) else (if bt130.2 = true then (some false) else ((caravanlaw6_awake.f k).bind fun t134 => (some t134))))) else (some false))) else (some false)) else (some false))) else (some false)))))))) = some r := H
 have A4 := Aside0.mk A40
 clear A40
 replace H := Option.bind_eq_some_iff.mp H
 obtain ⟨⟨t121, t122⟩, A50, H⟩ := H
 replace H : (if ((decide ((wrap64 (a0 + (wrap64 (a1)))) ≥ a0)) != (decide (a1 ≥ 0))) = true then (if t122 = true then (some false) else (if t121.toList = ([] : List UInt8) then ((caravanlaw6_awake.f k).bind fun t123 => (some t123)) else (some false))) else ((text_Add.f t121 (wrap64 (-(wrap64 (a1))))).bind fun bt124 => ((text_Add.f (⟨#[57, 50, 50, 51, 51, 55, 50, 48, 51, 54, 56, 53, 52, 55, 55, 53, 56, 48, 55]⟩ : ByteArray) (wrap64 (1 + (wrap64 (a2))))).bind fun bt126 => ((text_Add.f (⟨#[45, 57, 50, 50, 51, 51, 55, 50, 48, 51, 54, 56, 53, 52, 55, 55, 53, 56, 48, 56]⟩ : ByteArray) (wrap64 ((-1) - (wrap64 (a2))))).bind fun bt128 => ((text_Add.f (⟨#[120]⟩ : ByteArray) 1).bind fun bt130 => (if t122 = true then ((caravanref1_Digits.f k (wrap64 (a0 + (wrap64 (a1))))).bind fun t132 => (if t121.toList = t132.toList then (if bt124.2 = true then ((caravanref1_Digits.f k a0).bind fun t133 => (if bt124.1.toList = t133.toList then (if bt126.2 = true then (some false) else (if bt128.2 = true then (some false) else (if bt130.2 = true then (some false) else ((caravanlaw6_awake.f k).bind fun t134 => (some t134))))) else (some false))) else (some false)) else (some false))) else (some false))))))) = some r := H
 have A5 := Aside0.mk A50
 clear A50
 by_cases c6 : ((decide ((wrap64 (a0 + (wrap64 (a1)))) ≥ a0)) != (decide (a1 ≥ 0))) = true
 ·rw [if_pos c6] at H
  have c6b0 : ((decide ((wrap64 (a0 + (wrap64 (a1)))) ≥ a0)) != (decide (a1 ≥ 0))) = true := c6
  (try (have c6b1 : decide ((decide ((wrap64 (a0 + (wrap64 (a1)))) ≥ a0)) = (decide (a1 ≥ 0))) = false := by simpa using c6))
  (try (have c6b2 : ((decide ((wrap64 (a0 + (wrap64 (a1)))) ≥ a0)) == (decide (a1 ≥ 0))) = false := by simpa using c6))
  (try (have c6b3 : ¬ ((decide ((wrap64 (a0 + (wrap64 (a1)))) ≥ a0)) = (decide (a1 ≥ 0))) := by simpa using c6))
  clear c6
  by_cases c7 : t122 = true
  ·subst c7
   have H1 : (some false) = some r := by rw [if_pos rfl] at H; exact H
   clear H
   have H := H1
   clear H1
   subst hrt_; exact absurd H (by simp)
  ·replace c7 := Bool.eq_false_iff.mpr c7
   subst c7
   have H1 : (if t121.toList = ([] : List UInt8) then ((caravanlaw6_awake.f k).bind fun t123 => (some t123)) else (some false)) = some r := by rw [if_neg (show ¬ (false = true) by decide)] at H; exact H
   clear H
   have H := H1
   clear H1
   by_cases c8 : t121.toList = ([] : List UInt8)
   ·rw [if_pos c8] at H
    have c8b0 : (t121.toList == ([] : List UInt8)) = true := beq_iff_eq.mpr c8
    have c8b1 : (t121.toList != ([] : List UInt8)) = false := bne_eq_false_iff_eq.mpr c8
    clear c8
    replace H := Option.bind_eq_some_iff.mp H
    obtain ⟨t123, A90, H⟩ := H
    replace H : (some t123) = some r := H
    have A9 := Aside0.mk A90
    clear A90
    obtain rfl := Option.some.inj H
    go_enter Tryd.func4, Tryd.ntmps4
    go_wp2_with (first | ((with_reducible refine gate_callee (f := 7) rfl ?_); refine goesL_ (some 20) rfl rfl Tryd.func7 (by kernel_rfl) rfl #[.int .i64 a0] rfl qM_ ?_; (with_reducible refine (caravanref1_Digits.calls k a0 t120 _ A4.out).mono ?_); rintro e w10 ⟨rfl, hb⟩; refine ⟨_, rfl, ?_⟩; have n0_ := Aside0.mk (below_step (qdb35_ HB.out) hb); clear HB; have HB := n0_; clear n0_; (try clear hb); (try clear hb2); (try clear hk); (try clear hi)) | ((with_reducible refine gate_callee (f := 10) rfl ?_); refine goesL_ (some 23) rfl rfl Tryd.func10 (by kernel_rfl) rfl #[.string t120, .int .i64 (wrap64 (a1))] rfl qM_ ?_; (with_reducible refine (text_Add.calls t120 (wrap64 (a1)) t121 false _ A5.out (Wd.of hWd_ (qdb35_ HB.out))).mono ?_); rintro e w11 ⟨rfl, hb⟩; refine ⟨_, rfl, ?_⟩; have n0_ := Aside0.mk (below_step (qdb35_ HB.out) hb); clear HB; have HB := n0_; clear n0_; (try clear hb); (try clear hb2); (try clear hk); (try clear hi)) | (go_at_call 9; (with_reducible refine (caravanlaw6_awake.calls k  t123 _ A9.out).mono ?_); rintro e w12 ⟨rfl, hb⟩; have n0_ := Aside0.mk (below_step (qdb35_ HB.out) hb); clear HB; have HB := n0_; clear n0_; (try clear hb); (try clear hb2); (try clear hk); (try clear hi)))
    go_ret
    exact ⟨by first | rfl | (simp [errW_none, errW_some] <;> rfl) | (simp [*, errW_none, errW_some] <;> rfl), (qdb35_ HB.out)⟩
   ·rw [if_neg c8] at H
    have c8b0 : (t121.toList == ([] : List UInt8)) = false := beq_eq_false_iff_ne.mpr c8
    have c8b1 : (t121.toList != ([] : List UInt8)) = true := bne_iff_ne.mpr c8
    subst hrt_; exact absurd H (by simp)
 ·rw [if_neg c6] at H
  have c6b0 : ((decide ((wrap64 (a0 + (wrap64 (a1)))) ≥ a0)) != (decide (a1 ≥ 0))) = false := by simpa using c6
  (try (have c6b1 : decide ((decide ((wrap64 (a0 + (wrap64 (a1)))) ≥ a0)) = (decide (a1 ≥ 0))) = true := by simpa using c6))
  (try (have c6b2 : ((decide ((wrap64 (a0 + (wrap64 (a1)))) ≥ a0)) == (decide (a1 ≥ 0))) = true := by simpa using c6))
  clear c6
  replace H := Option.bind_eq_some_iff.mp H
  obtain ⟨⟨t124, t125⟩, A130, H⟩ := H
  replace H : ((text_Add.f (⟨#[57, 50, 50, 51, 51, 55, 50, 48, 51, 54, 56, 53, 52, 55, 55, 53, 56, 48, 55]⟩ : ByteArray) (wrap64 (1 + (wrap64 (a2))))).bind fun bt126 => ((text_Add.f (⟨#[45, 57, 50, 50, 51, 51, 55, 50, 48, 51, 54, 56, 53, 52, 55, 55, 53, 56, 48, 56]⟩ : ByteArray) (wrap64 ((-1) - (wrap64 (a2))))).bind fun bt128 => ((text_Add.f (⟨#[120]⟩ : ByteArray) 1).bind fun bt130 => (if t122 = true then ((caravanref1_Digits.f k (wrap64 (a0 + (wrap64 (a1))))).bind fun t132 => (if t121.toList = t132.toList then (if t125 = true then ((caravanref1_Digits.f k a0).bind fun t133 => (if t124.toList = t133.toList then (if bt126.2 = true then (some false) else (if bt128.2 = true then (some false) else (if bt130.2 = true then (some false) else ((caravanlaw6_awake.f k).bind fun t134 => (some t134))))) else (some false))) else (some false)) else (some false))) else (some false))))) = some r := H
  have A13 := Aside0.mk A130
  clear A130
  replace H := Option.bind_eq_some_iff.mp H
  obtain ⟨⟨t126, t127⟩, A140, H⟩ := H
  replace H : ((text_Add.f (⟨#[45, 57, 50, 50, 51, 51, 55, 50, 48, 51, 54, 56, 53, 52, 55, 55, 53, 56, 48, 56]⟩ : ByteArray) (wrap64 ((-1) - (wrap64 (a2))))).bind fun bt128 => ((text_Add.f (⟨#[120]⟩ : ByteArray) 1).bind fun bt130 => (if t122 = true then ((caravanref1_Digits.f k (wrap64 (a0 + (wrap64 (a1))))).bind fun t132 => (if t121.toList = t132.toList then (if t125 = true then ((caravanref1_Digits.f k a0).bind fun t133 => (if t124.toList = t133.toList then (if t127 = true then (some false) else (if bt128.2 = true then (some false) else (if bt130.2 = true then (some false) else ((caravanlaw6_awake.f k).bind fun t134 => (some t134))))) else (some false))) else (some false)) else (some false))) else (some false)))) = some r := H
  have A14 := Aside0.mk A140
  clear A140
  replace H := Option.bind_eq_some_iff.mp H
  obtain ⟨⟨t128, t129⟩, A150, H⟩ := H
  replace H : ((text_Add.f (⟨#[120]⟩ : ByteArray) 1).bind fun bt130 => (if t122 = true then ((caravanref1_Digits.f k (wrap64 (a0 + (wrap64 (a1))))).bind fun t132 => (if t121.toList = t132.toList then (if t125 = true then ((caravanref1_Digits.f k a0).bind fun t133 => (if t124.toList = t133.toList then (if t127 = true then (some false) else (if t129 = true then (some false) else (if bt130.2 = true then (some false) else ((caravanlaw6_awake.f k).bind fun t134 => (some t134))))) else (some false))) else (some false)) else (some false))) else (some false))) = some r := H
  have A15 := Aside0.mk A150
  clear A150
  replace H := Option.bind_eq_some_iff.mp H
  obtain ⟨⟨t130, t131⟩, A160, H⟩ := H
  replace H : (if t122 = true then ((caravanref1_Digits.f k (wrap64 (a0 + (wrap64 (a1))))).bind fun t132 => (if t121.toList = t132.toList then (if t125 = true then ((caravanref1_Digits.f k a0).bind fun t133 => (if t124.toList = t133.toList then (if t127 = true then (some false) else (if t129 = true then (some false) else (if t131 = true then (some false) else ((caravanlaw6_awake.f k).bind fun t134 => (some t134))))) else (some false))) else (some false)) else (some false))) else (some false)) = some r := H
  have A16 := Aside0.mk A160
  clear A160
  by_cases c17 : t122 = true
  ·subst c17
   have H1 : ((caravanref1_Digits.f k (wrap64 (a0 + (wrap64 (a1))))).bind fun t132 => (if t121.toList = t132.toList then (if t125 = true then ((caravanref1_Digits.f k a0).bind fun t133 => (if t124.toList = t133.toList then (if t127 = true then (some false) else (if t129 = true then (some false) else (if t131 = true then (some false) else ((caravanlaw6_awake.f k).bind fun t134 => (some t134))))) else (some false))) else (some false)) else (some false))) = some r := by rw [if_pos rfl] at H; exact H
   clear H
   have H := H1
   clear H1
   replace H := Option.bind_eq_some_iff.mp H
   obtain ⟨t132, A180, H⟩ := H
   replace H : (if t121.toList = t132.toList then (if t125 = true then ((caravanref1_Digits.f k a0).bind fun t133 => (if t124.toList = t133.toList then (if t127 = true then (some false) else (if t129 = true then (some false) else (if t131 = true then (some false) else ((caravanlaw6_awake.f k).bind fun t134 => (some t134))))) else (some false))) else (some false)) else (some false)) = some r := H
   have A18 := Aside0.mk A180
   clear A180
   by_cases c19 : t121.toList = t132.toList
   ·rw [if_pos c19] at H
    have c19b0 : (t121.toList == t132.toList) = true := beq_iff_eq.mpr c19
    have c19b1 : (t121.toList != t132.toList) = false := bne_eq_false_iff_eq.mpr c19
    clear c19
    by_cases c20 : t125 = true
    ·subst c20
     have H1 : ((caravanref1_Digits.f k a0).bind fun t133 => (if t124.toList = t133.toList then (if t127 = true then (some false) else (if t129 = true then (some false) else (if t131 = true then (some false) else ((caravanlaw6_awake.f k).bind fun t134 => (some t134))))) else (some false))) = some r := by rw [if_pos rfl] at H; exact H
     clear H
     have H := H1
     clear H1
     replace H := Option.bind_eq_some_iff.mp H
     obtain ⟨t133, A210, H⟩ := H
     replace H : (if t124.toList = t133.toList then (if t127 = true then (some false) else (if t129 = true then (some false) else (if t131 = true then (some false) else ((caravanlaw6_awake.f k).bind fun t134 => (some t134))))) else (some false)) = some r := H
     have A21 := Aside0.mk A210
     clear A210
     by_cases c22 : t124.toList = t133.toList
     ·rw [if_pos c22] at H
      have c22b0 : (t124.toList == t133.toList) = true := beq_iff_eq.mpr c22
      have c22b1 : (t124.toList != t133.toList) = false := bne_eq_false_iff_eq.mpr c22
      clear c22
      by_cases c23 : t127 = true
      ·subst c23
       have H1 : (some false) = some r := by rw [if_pos rfl] at H; exact H
       clear H
       have H := H1
       clear H1
       subst hrt_; exact absurd H (by simp)
      ·replace c23 := Bool.eq_false_iff.mpr c23
       subst c23
       have H1 : (if t129 = true then (some false) else (if t131 = true then (some false) else ((caravanlaw6_awake.f k).bind fun t134 => (some t134)))) = some r := by rw [if_neg (show ¬ (false = true) by decide)] at H; exact H
       clear H
       have H := H1
       clear H1
       by_cases c24 : t129 = true
       ·subst c24
        have H1 : (some false) = some r := by rw [if_pos rfl] at H; exact H
        clear H
        have H := H1
        clear H1
        subst hrt_; exact absurd H (by simp)
       ·replace c24 := Bool.eq_false_iff.mpr c24
        subst c24
        have H1 : (if t131 = true then (some false) else ((caravanlaw6_awake.f k).bind fun t134 => (some t134))) = some r := by rw [if_neg (show ¬ (false = true) by decide)] at H; exact H
        clear H
        have H := H1
        clear H1
        by_cases c25 : t131 = true
        ·subst c25
         have H1 : (some false) = some r := by rw [if_pos rfl] at H; exact H
         clear H
         have H := H1
         clear H1
         subst hrt_; exact absurd H (by simp)
        ·replace c25 := Bool.eq_false_iff.mpr c25
         subst c25
         have H1 : ((caravanlaw6_awake.f k).bind fun t134 => (some t134)) = some r := by rw [if_neg (show ¬ (false = true) by decide)] at H; exact H
         clear H
         have H := H1
         clear H1
         replace H := Option.bind_eq_some_iff.mp H
         obtain ⟨t134, A260, H⟩ := H
         replace H : (some t134) = some r := H
         have A26 := Aside0.mk A260
         clear A260
         obtain rfl := Option.some.inj H
         go_enter Tryd.func4, Tryd.ntmps4
         go_wp2_with (first | ((with_reducible refine gate_callee (f := 7) rfl ?_); refine goesL_ (some 20) rfl rfl Tryd.func7 (by kernel_rfl) rfl #[.int .i64 a0] rfl qM_ ?_; (with_reducible refine (caravanref1_Digits.calls k a0 t120 _ A4.out).mono ?_); rintro e w27 ⟨rfl, hb⟩; refine ⟨_, rfl, ?_⟩; have n0_ := Aside0.mk (below_step (qdb35_ HB.out) hb); clear HB; have HB := n0_; clear n0_; (try clear hb); (try clear hb2); (try clear hk); (try clear hi)) | ((with_reducible refine gate_callee (f := 10) rfl ?_); refine goesL_ (some 23) rfl rfl Tryd.func10 (by kernel_rfl) rfl #[.string t120, .int .i64 (wrap64 (a1))] rfl qM_ ?_; (with_reducible refine (text_Add.calls t120 (wrap64 (a1)) t121 true _ A5.out (Wd.of hWd_ (qdb35_ HB.out))).mono ?_); rintro e w28 ⟨rfl, hb⟩; refine ⟨_, rfl, ?_⟩; have n0_ := Aside0.mk (below_step (qdb35_ HB.out) hb); clear HB; have HB := n0_; clear n0_; (try clear hb); (try clear hb2); (try clear hk); (try clear hi)) | ((with_reducible refine gate_callee (f := 10) rfl ?_); refine goesL_ (some 50) rfl rfl Tryd.func10 (by kernel_rfl) rfl #[.string t121, .int .i64 (wrap64 (-(wrap64 (a1))))] rfl qM_ ?_; (with_reducible refine (text_Add.calls t121 (wrap64 (-(wrap64 (a1)))) t124 true _ A13.out (Wd.of hWd_ (qdb35_ HB.out))).mono ?_); rintro e w29 ⟨rfl, hb⟩; refine ⟨_, rfl, ?_⟩; have n0_ := Aside0.mk (below_step (qdb35_ HB.out) hb); clear HB; have HB := n0_; clear n0_; (try clear hb); (try clear hb2); (try clear hk); (try clear hi)) | ((with_reducible refine gate_callee (f := 10) rfl ?_); refine goesL_ (some 57) rfl rfl Tryd.func10 (by kernel_rfl) rfl #[.string (⟨#[57, 50, 50, 51, 51, 55, 50, 48, 51, 54, 56, 53, 52, 55, 55, 53, 56, 48, 55]⟩ : ByteArray), .int .i64 (wrap64 (1 + (wrap64 (a2))))] rfl qM_ ?_; (with_reducible refine (text_Add.calls (⟨#[57, 50, 50, 51, 51, 55, 50, 48, 51, 54, 56, 53, 52, 55, 55, 53, 56, 48, 55]⟩ : ByteArray) (wrap64 (1 + (wrap64 (a2)))) t126 false _ A14.out (Wd.of hWd_ (qdb35_ HB.out))).mono ?_); rintro e w30 ⟨rfl, hb⟩; refine ⟨_, rfl, ?_⟩; have n0_ := Aside0.mk (below_step (qdb35_ HB.out) hb); clear HB; have HB := n0_; clear n0_; (try clear hb); (try clear hb2); (try clear hk); (try clear hi)) | ((with_reducible refine gate_callee (f := 10) rfl ?_); refine goesL_ (some 64) rfl rfl Tryd.func10 (by kernel_rfl) rfl #[.string (⟨#[45, 57, 50, 50, 51, 51, 55, 50, 48, 51, 54, 56, 53, 52, 55, 55, 53, 56, 48, 56]⟩ : ByteArray), .int .i64 (wrap64 ((-1) - (wrap64 (a2))))] rfl qM_ ?_; (with_reducible refine (text_Add.calls (⟨#[45, 57, 50, 50, 51, 51, 55, 50, 48, 51, 54, 56, 53, 52, 55, 55, 53, 56, 48, 56]⟩ : ByteArray) (wrap64 ((-1) - (wrap64 (a2)))) t128 false _ A15.out (Wd.of hWd_ (qdb35_ HB.out))).mono ?_); rintro e w31 ⟨rfl, hb⟩; refine ⟨_, rfl, ?_⟩; have n0_ := Aside0.mk (below_step (qdb35_ HB.out) hb); clear HB; have HB := n0_; clear n0_; (try clear hb); (try clear hb2); (try clear hk); (try clear hi)) | ((with_reducible refine gate_callee (f := 10) rfl ?_); refine goesL_ (some 68) rfl rfl Tryd.func10 (by kernel_rfl) rfl #[.string (⟨#[120]⟩ : ByteArray), .int .i64 1] rfl qM_ ?_; (with_reducible refine (text_Add.calls (⟨#[120]⟩ : ByteArray) 1 t130 false _ A16.out (Wd.of hWd_ (qdb35_ HB.out))).mono ?_); rintro e w32 ⟨rfl, hb⟩; refine ⟨_, rfl, ?_⟩; have n0_ := Aside0.mk (below_step (qdb35_ HB.out) hb); clear HB; have HB := n0_; clear n0_; (try clear hb); (try clear hb2); (try clear hk); (try clear hi)) | (go_at_call 7; (with_reducible refine (caravanref1_Digits.calls k (wrap64 (a0 + (wrap64 (a1)))) t132 _ A18.out).mono ?_); rintro e w33 ⟨rfl, hb⟩; have n0_ := Aside0.mk (below_step (qdb35_ HB.out) hb); clear HB; have HB := n0_; clear n0_; (try clear hb); (try clear hb2); (try clear hk); (try clear hi)) | (go_at_call 7; (with_reducible refine (caravanref1_Digits.calls k a0 t133 _ A21.out).mono ?_); rintro e w34 ⟨rfl, hb⟩; have n0_ := Aside0.mk (below_step (qdb35_ HB.out) hb); clear HB; have HB := n0_; clear n0_; (try clear hb); (try clear hb2); (try clear hk); (try clear hi)) | (go_at_call 9; (with_reducible refine (caravanlaw6_awake.calls k  t134 _ A26.out).mono ?_); rintro e w35 ⟨rfl, hb⟩; have n0_ := Aside0.mk (below_step (qdb35_ HB.out) hb); clear HB; have HB := n0_; clear n0_; (try clear hb); (try clear hb2); (try clear hk); (try clear hi)))
         go_ret
         exact ⟨by first | rfl | (simp [errW_none, errW_some] <;> rfl) | (simp [*, errW_none, errW_some] <;> rfl), (qdb35_ HB.out)⟩
     ·rw [if_neg c22] at H
      have c22b0 : (t124.toList == t133.toList) = false := beq_eq_false_iff_ne.mpr c22
      have c22b1 : (t124.toList != t133.toList) = true := bne_iff_ne.mpr c22
      subst hrt_; exact absurd H (by simp)
    ·replace c20 := Bool.eq_false_iff.mpr c20
     subst c20
     have H1 : (some false) = some r := by rw [if_neg (show ¬ (false = true) by decide)] at H; exact H
     clear H
     have H := H1
     clear H1
     subst hrt_; exact absurd H (by simp)
   ·rw [if_neg c19] at H
    have c19b0 : (t121.toList == t132.toList) = false := beq_eq_false_iff_ne.mpr c19
    have c19b1 : (t121.toList != t132.toList) = true := bne_iff_ne.mpr c19
    subst hrt_; exact absurd H (by simp)
  ·replace c17 := Bool.eq_false_iff.mpr c17
   subst c17
   have H1 : (some false) = some r := by rw [if_neg (show ¬ (false = true) by decide)] at H; exact H
   clear H
   have H := H1
   clear H1
   subst hrt_; exact absurd H (by simp)

/-- THE ONE PURE STATEMENT of caravanlaw6_TextAdds: yours. -/
def caravanlaw6_TextAdds.Pure : Prop := ∀ (a0 : Int) (a1 : Int) (a2 : Int), (Lit.int .i64 a0).wf = true → (Lit.int .i32 a1).wf = true → (Lit.int .u8 a2).wf = true → ∃ k, caravanlaw6_TextAdds.f k a0 a1 a2 = some true
theorem caravanlaw6_TextAdds.walk (P : caravanlaw6_TextAdds.Pure) (a0 : Int) (a1 : Int) (a2 : Int) (w : World) (hWd_ : Wd w) (w0 : (Lit.int .i64 a0).wf = true) (w1 : (Lit.int .i32 a1).wf = true) (w2 : (Lit.int .u8 a2).wf = true) :
 Calls Tryd.prog 4 #[.int .i64 a0, .int .i32 a1, .int .u8 a2] w fun e w' => e = .returned (.bool true) ∧ Below w.heap.size w w' := by
 obtain ⟨k, h⟩ := P a0 a1 a2 w0 w1 w2
 refine (caravanlaw6_TextAdds.calls k a0 a1 a2 true w h rfl hWd_).mono ?_
 rintro e w' ⟨rfl, hd⟩
 exact ⟨rfl, hd⟩

/-! ### caravanlaw6_TextOrder: function 5 -/
def caravanlaw6_TextOrder.f (k : Nat) (a0 : Int) (a1 : Int) (a2 : Int) : Option (Bool) := (caravanref1_Digits.f k (wrap64 (a0))).bind fun t135 => ((text_Add.f t135 (wrap64 (a1))).bind fun bt136 => ((text_Add.f bt136.1 (wrap64 (a2))).bind fun bt138 => ((text_Add.f t135 (wrap64 (a2))).bind fun bt140 => ((text_Add.f bt140.1 (wrap64 (a1))).bind fun bt142 => ((text_Number.f bt138.1).bind fun bt144 => (if bt136.2 = true then (if bt138.2 = true then (if bt140.2 = true then (if bt142.2 = true then (if bt138.1.toList = bt142.1.toList then (if bt144.2 = true then (if bt144.1 = (wrap64 ((wrap64 ((wrap64 (a0)) + (wrap64 (a1)))) + (wrap64 (a2)))) then ((caravanlaw6_awake.f k).bind fun t146 => (some t146)) else (some false)) else (some false)) else (some false)) else (some false)) else (some false)) else (some false)) else (some false)))))))
theorem caravanlaw6_TextOrder.mono : ∀ a0 a1 a2 k, LeO (caravanlaw6_TextOrder.f k a0 a1 a2) (caravanlaw6_TextOrder.f (k + 1) a0 a1 a2) := by
 intro a0 a1 a2 k
 unfold caravanlaw6_TextOrder.f
 repeat' first
  | (with_reducible exact caravanlaw6_awake.mono _)
  | (with_reducible exact caravanref1_Digits.mono _ _)
  | (with_reducible exact LeO.refl _)
  | (with_reducible exact LeO.none _)
  | (with_reducible refine LeO.ite ?_ ?_)
  | (with_reducible refine LeO.bind ?_ (fun _ => ?_))
  | exact caravanlaw6_awake.mono _
  | exact caravanref1_Digits.mono _ _
  | exact LeO.none _
  | refine LeO.ite ?_ ?_
  | refine LeO.bind ?_ (fun _ => ?_)
set_option maxHeartbeats 8000000 in
set_option maxRecDepth 100000 in
theorem caravanlaw6_TextOrder.calls (k : Nat) (a0 : Int) (a1 : Int) (a2 : Int) (r : Bool) (w : World) (h : caravanlaw6_TextOrder.f k a0 a1 a2 = some r) (hrt_ : r = true) (hWd_ : Wd w) :
 Calls Tryd.prog 5 #[.int .i32 a0, .int .i32 a1, .int .i32 a2] w fun e w' => e = .returned (.bool r) ∧ Below w.heap.size w w' := by
 have HB := Aside0.mk (Below.refl w.heap.size w)
 have H : ((caravanref1_Digits.f k (wrap64 (a0))).bind fun t135 => ((text_Add.f t135 (wrap64 (a1))).bind fun bt136 => ((text_Add.f bt136.1 (wrap64 (a2))).bind fun bt138 => ((text_Add.f t135 (wrap64 (a2))).bind fun bt140 => ((text_Add.f bt140.1 (wrap64 (a1))).bind fun bt142 => ((text_Number.f bt138.1).bind fun bt144 => (if bt136.2 = true then (if bt138.2 = true then (if bt140.2 = true then (if bt142.2 = true then (if bt138.1.toList = bt142.1.toList then (if bt144.2 = true then (if bt144.1 = (wrap64 ((wrap64 ((wrap64 (a0)) + (wrap64 (a1)))) + (wrap64 (a2)))) then ((caravanlaw6_awake.f k).bind fun t146 => (some t146)) else (some false)) else (some false)) else (some false)) else (some false)) else (some false)) else (some false)) else (some false)))))))) = some r := h
 clear h
 replace H := Option.bind_eq_some_iff.mp H
 obtain ⟨t135, A40, H⟩ := H
 replace H : ((text_Add.f t135 (wrap64 (a1))).bind fun bt136 => ((text_Add.f bt136.1 (wrap64 (a2))).bind fun bt138 => ((text_Add.f t135 (wrap64 (a2))).bind fun bt140 => ((text_Add.f bt140.1 (wrap64 (a1))).bind fun bt142 => ((text_Number.f bt138.1).bind fun bt144 => (if bt136.2 = true then (if bt138.2 = true then (if bt140.2 = true then (if bt142.2 = true then (if bt138.1.toList = bt142.1.toList then (if bt144.2 = true then (if bt144.1 = (wrap64 ((wrap64 ((wrap64 (a0)) + (wrap64 (a1)))) + (wrap64 (a2)))) then ((caravanlaw6_awake.f k).bind fun t146 => (some t146)) else (some false)) else (some false)) else (some false)) else (some false)) else (some false)) else (some false)) else (some false))))))) = some r := H
 have A4 := Aside0.mk A40
 clear A40
 replace H := Option.bind_eq_some_iff.mp H
 obtain ⟨⟨t136, t137⟩, A50, H⟩ := H
 replace H : ((text_Add.f t136 (wrap64 (a2))).bind fun bt138 => ((text_Add.f t135 (wrap64 (a2))).bind fun bt140 => ((text_Add.f bt140.1 (wrap64 (a1))).bind fun bt142 => ((text_Number.f bt138.1).bind fun bt144 => (if t137 = true then (if bt138.2 = true then (if bt140.2 = true then (if bt142.2 = true then (if bt138.1.toList = bt142.1.toList then (if bt144.2 = true then (if bt144.1 = (wrap64 ((wrap64 ((wrap64 (a0)) + (wrap64 (a1)))) + (wrap64 (a2)))) then ((caravanlaw6_awake.f k).bind fun t146 => (some t146)) else (some false)) else (some false)) else (some false)) else (some false)) else (some false)) else (some false)) else (some false)))))) = some r := H
 have A5 := Aside0.mk A50
 clear A50
 replace H := Option.bind_eq_some_iff.mp H
 obtain ⟨⟨t138, t139⟩, A60, H⟩ := H
 replace H : ((text_Add.f t135 (wrap64 (a2))).bind fun bt140 => ((text_Add.f bt140.1 (wrap64 (a1))).bind fun bt142 => ((text_Number.f t138).bind fun bt144 => (if t137 = true then (if t139 = true then (if bt140.2 = true then (if bt142.2 = true then (if t138.toList = bt142.1.toList then (if bt144.2 = true then (if bt144.1 = (wrap64 ((wrap64 ((wrap64 (a0)) + (wrap64 (a1)))) + (wrap64 (a2)))) then ((caravanlaw6_awake.f k).bind fun t146 => (some t146)) else (some false)) else (some false)) else (some false)) else (some false)) else (some false)) else (some false)) else (some false))))) = some r := H
 have A6 := Aside0.mk A60
 clear A60
 replace H := Option.bind_eq_some_iff.mp H
 obtain ⟨⟨t140, t141⟩, A70, H⟩ := H
 replace H : ((text_Add.f t140 (wrap64 (a1))).bind fun bt142 => ((text_Number.f t138).bind fun bt144 => (if t137 = true then (if t139 = true then (if t141 = true then (if bt142.2 = true then (if t138.toList = bt142.1.toList then (if bt144.2 = true then (if bt144.1 = (wrap64 ((wrap64 ((wrap64 (a0)) + (wrap64 (a1)))) + (wrap64 (a2)))) then ((caravanlaw6_awake.f k).bind fun t146 => (some t146)) else (some false)) else (some false)) else (some false)) else (some false)) else (some false)) else (some false)) else (some false)))) = some r := H
 have A7 := Aside0.mk A70
 clear A70
 replace H := Option.bind_eq_some_iff.mp H
 obtain ⟨⟨t142, t143⟩, A80, H⟩ := H
 replace H : ((text_Number.f t138).bind fun bt144 => (if t137 = true then (if t139 = true then (if t141 = true then (if t143 = true then (if t138.toList = t142.toList then (if bt144.2 = true then (if bt144.1 = (wrap64 ((wrap64 ((wrap64 (a0)) + (wrap64 (a1)))) + (wrap64 (a2)))) then ((caravanlaw6_awake.f k).bind fun t146 => (some t146)) else (some false)) else (some false)) else (some false)) else (some false)) else (some false)) else (some false)) else (some false))) = some r := H
 have A8 := Aside0.mk A80
 clear A80
 replace H := Option.bind_eq_some_iff.mp H
 obtain ⟨⟨t144, t145⟩, A90, H⟩ := H
 replace H : (if t137 = true then (if t139 = true then (if t141 = true then (if t143 = true then (if t138.toList = t142.toList then (if t145 = true then (if t144 = (wrap64 ((wrap64 ((wrap64 (a0)) + (wrap64 (a1)))) + (wrap64 (a2)))) then ((caravanlaw6_awake.f k).bind fun t146 => (some t146)) else (some false)) else (some false)) else (some false)) else (some false)) else (some false)) else (some false)) else (some false)) = some r := H
 have A9 := Aside0.mk A90
 clear A90
 by_cases c10 : t137 = true
 ·subst c10
  have H1 : (if t139 = true then (if t141 = true then (if t143 = true then (if t138.toList = t142.toList then (if t145 = true then (if t144 = (wrap64 ((wrap64 ((wrap64 (a0)) + (wrap64 (a1)))) + (wrap64 (a2)))) then ((caravanlaw6_awake.f k).bind fun t146 => (some t146)) else (some false)) else (some false)) else (some false)) else (some false)) else (some false)) else (some false)) = some r := by rw [if_pos rfl] at H; exact H
  clear H
  have H := H1
  clear H1
  by_cases c11 : t139 = true
  ·subst c11
   have H1 : (if t141 = true then (if t143 = true then (if t138.toList = t142.toList then (if t145 = true then (if t144 = (wrap64 ((wrap64 ((wrap64 (a0)) + (wrap64 (a1)))) + (wrap64 (a2)))) then ((caravanlaw6_awake.f k).bind fun t146 => (some t146)) else (some false)) else (some false)) else (some false)) else (some false)) else (some false)) = some r := by rw [if_pos rfl] at H; exact H
   clear H
   have H := H1
   clear H1
   by_cases c12 : t141 = true
   ·subst c12
    have H1 : (if t143 = true then (if t138.toList = t142.toList then (if t145 = true then (if t144 = (wrap64 ((wrap64 ((wrap64 (a0)) + (wrap64 (a1)))) + (wrap64 (a2)))) then ((caravanlaw6_awake.f k).bind fun t146 => (some t146)) else (some false)) else (some false)) else (some false)) else (some false)) = some r := by rw [if_pos rfl] at H; exact H
    clear H
    have H := H1
    clear H1
    by_cases c13 : t143 = true
    ·subst c13
     have H1 : (if t138.toList = t142.toList then (if t145 = true then (if t144 = (wrap64 ((wrap64 ((wrap64 (a0)) + (wrap64 (a1)))) + (wrap64 (a2)))) then ((caravanlaw6_awake.f k).bind fun t146 => (some t146)) else (some false)) else (some false)) else (some false)) = some r := by rw [if_pos rfl] at H; exact H
     clear H
     have H := H1
     clear H1
     by_cases c14 : t138.toList = t142.toList
     ·rw [if_pos c14] at H
      have c14b0 : (t138.toList == t142.toList) = true := beq_iff_eq.mpr c14
      have c14b1 : (t138.toList != t142.toList) = false := bne_eq_false_iff_eq.mpr c14
      clear c14
      by_cases c15 : t145 = true
      ·subst c15
       have H1 : (if t144 = (wrap64 ((wrap64 ((wrap64 (a0)) + (wrap64 (a1)))) + (wrap64 (a2)))) then ((caravanlaw6_awake.f k).bind fun t146 => (some t146)) else (some false)) = some r := by rw [if_pos rfl] at H; exact H
       clear H
       have H := H1
       clear H1
       by_cases c16 : t144 = (wrap64 ((wrap64 ((wrap64 (a0)) + (wrap64 (a1)))) + (wrap64 (a2))))
       ·rw [if_pos c16] at H
        have c16b0 : (t144 == (wrap64 ((wrap64 ((wrap64 (a0)) + (wrap64 (a1)))) + (wrap64 (a2))))) = true := beq_iff_eq.mpr c16
        have c16b1 : (t144 != (wrap64 ((wrap64 ((wrap64 (a0)) + (wrap64 (a1)))) + (wrap64 (a2))))) = false := bne_eq_false_iff_eq.mpr c16
        clear c16
        replace H := Option.bind_eq_some_iff.mp H
        obtain ⟨t146, A170, H⟩ := H
        replace H : (some t146) = some r := H
        have A17 := Aside0.mk A170
        clear A170
        obtain rfl := Option.some.inj H
        go_enter Tryd.func5, Tryd.ntmps5
        go_wp2_with (first | ((with_reducible refine gate_callee (f := 7) rfl ?_); refine goesL_ (some 20) rfl rfl Tryd.func7 (by kernel_rfl) rfl #[.int .i64 (wrap64 (a0))] rfl qM_ ?_; (with_reducible refine (caravanref1_Digits.calls k (wrap64 (a0)) t135 _ A4.out).mono ?_); rintro e w18 ⟨rfl, hb⟩; refine ⟨_, rfl, ?_⟩; have n0_ := Aside0.mk (below_step (qdb35_ HB.out) hb); clear HB; have HB := n0_; clear n0_; (try clear hb); (try clear hb2); (try clear hk); (try clear hi)) | ((with_reducible refine gate_callee (f := 10) rfl ?_); refine goesL_ (some 25) rfl rfl Tryd.func10 (by kernel_rfl) rfl #[.string t135, .int .i64 (wrap64 (a1))] rfl qM_ ?_; (with_reducible refine (text_Add.calls t135 (wrap64 (a1)) t136 true _ A5.out (Wd.of hWd_ (qdb35_ HB.out))).mono ?_); rintro e w19 ⟨rfl, hb⟩; refine ⟨_, rfl, ?_⟩; have n0_ := Aside0.mk (below_step (qdb35_ HB.out) hb); clear HB; have HB := n0_; clear n0_; (try clear hb); (try clear hb2); (try clear hk); (try clear hi)) | ((with_reducible refine gate_callee (f := 10) rfl ?_); refine goesL_ (some 32) rfl rfl Tryd.func10 (by kernel_rfl) rfl #[.string t136, .int .i64 (wrap64 (a2))] rfl qM_ ?_; (with_reducible refine (text_Add.calls t136 (wrap64 (a2)) t138 true _ A6.out (Wd.of hWd_ (qdb35_ HB.out))).mono ?_); rintro e w20 ⟨rfl, hb⟩; refine ⟨_, rfl, ?_⟩; have n0_ := Aside0.mk (below_step (qdb35_ HB.out) hb); clear HB; have HB := n0_; clear n0_; (try clear hb); (try clear hb2); (try clear hk); (try clear hi)) | ((with_reducible refine gate_callee (f := 10) rfl ?_); refine goesL_ (some 39) rfl rfl Tryd.func10 (by kernel_rfl) rfl #[.string t135, .int .i64 (wrap64 (a2))] rfl qM_ ?_; (with_reducible refine (text_Add.calls t135 (wrap64 (a2)) t140 true _ A7.out (Wd.of hWd_ (qdb35_ HB.out))).mono ?_); rintro e w21 ⟨rfl, hb⟩; refine ⟨_, rfl, ?_⟩; have n0_ := Aside0.mk (below_step (qdb35_ HB.out) hb); clear HB; have HB := n0_; clear n0_; (try clear hb); (try clear hb2); (try clear hk); (try clear hi)) | ((with_reducible refine gate_callee (f := 10) rfl ?_); refine goesL_ (some 46) rfl rfl Tryd.func10 (by kernel_rfl) rfl #[.string t140, .int .i64 (wrap64 (a1))] rfl qM_ ?_; (with_reducible refine (text_Add.calls t140 (wrap64 (a1)) t142 true _ A8.out (Wd.of hWd_ (qdb35_ HB.out))).mono ?_); rintro e w22 ⟨rfl, hb⟩; refine ⟨_, rfl, ?_⟩; have n0_ := Aside0.mk (below_step (qdb35_ HB.out) hb); clear HB; have HB := n0_; clear n0_; (try clear hb); (try clear hb2); (try clear hk); (try clear hi)) | ((with_reducible refine gate_callee (f := 8) rfl ?_); refine goesL_ (some 51) rfl rfl Tryd.func8 (by kernel_rfl) rfl #[.string t138] rfl qM_ ?_; (with_reducible refine (text_Number.calls t138 t144 true _ A9.out (Wd.of hWd_ (qdb35_ HB.out))).mono ?_); rintro e w23 ⟨rfl, hb⟩; refine ⟨_, rfl, ?_⟩; have n0_ := Aside0.mk (below_step (qdb35_ HB.out) hb); clear HB; have HB := n0_; clear n0_; (try clear hb); (try clear hb2); (try clear hk); (try clear hi)) | (go_at_call 9; (with_reducible refine (caravanlaw6_awake.calls k  t146 _ A17.out).mono ?_); rintro e w24 ⟨rfl, hb⟩; have n0_ := Aside0.mk (below_step (qdb35_ HB.out) hb); clear HB; have HB := n0_; clear n0_; (try clear hb); (try clear hb2); (try clear hk); (try clear hi)))
        go_ret
        exact ⟨by first | rfl | (simp [errW_none, errW_some] <;> rfl) | (simp [*, errW_none, errW_some] <;> rfl), (qdb35_ HB.out)⟩
       ·rw [if_neg c16] at H
        have c16b0 : (t144 == (wrap64 ((wrap64 ((wrap64 (a0)) + (wrap64 (a1)))) + (wrap64 (a2))))) = false := beq_eq_false_iff_ne.mpr c16
        have c16b1 : (t144 != (wrap64 ((wrap64 ((wrap64 (a0)) + (wrap64 (a1)))) + (wrap64 (a2))))) = true := bne_iff_ne.mpr c16
        subst hrt_; exact absurd H (by simp)
      ·replace c15 := Bool.eq_false_iff.mpr c15
       subst c15
       have H1 : (some false) = some r := by rw [if_neg (show ¬ (false = true) by decide)] at H; exact H
       clear H
       have H := H1
       clear H1
       subst hrt_; exact absurd H (by simp)
     ·rw [if_neg c14] at H
      have c14b0 : (t138.toList == t142.toList) = false := beq_eq_false_iff_ne.mpr c14
      have c14b1 : (t138.toList != t142.toList) = true := bne_iff_ne.mpr c14
      subst hrt_; exact absurd H (by simp)
    ·replace c13 := Bool.eq_false_iff.mpr c13
     subst c13
     have H1 : (some false) = some r := by rw [if_neg (show ¬ (false = true) by decide)] at H; exact H
     clear H
     have H := H1
     clear H1
     subst hrt_; exact absurd H (by simp)
   ·replace c12 := Bool.eq_false_iff.mpr c12
    subst c12
    have H1 : (some false) = some r := by rw [if_neg (show ¬ (false = true) by decide)] at H; exact H
    clear H
    have H := H1
    clear H1
    subst hrt_; exact absurd H (by simp)
  ·replace c11 := Bool.eq_false_iff.mpr c11
   subst c11
   have H1 : (some false) = some r := by rw [if_neg (show ¬ (false = true) by decide)] at H; exact H
   clear H
   have H := H1
   clear H1
   subst hrt_; exact absurd H (by simp)
 ·replace c10 := Bool.eq_false_iff.mpr c10
  subst c10
  have H1 : (some false) = some r := by rw [if_neg (show ¬ (false = true) by decide)] at H; exact H
  clear H
  have H := H1
  clear H1
  subst hrt_; exact absurd H (by simp)

/-- THE ONE PURE STATEMENT of caravanlaw6_TextOrder: yours. -/
def caravanlaw6_TextOrder.Pure : Prop := ∀ (a0 : Int) (a1 : Int) (a2 : Int), (Lit.int .i32 a0).wf = true → (Lit.int .i32 a1).wf = true → (Lit.int .i32 a2).wf = true → ∃ k, caravanlaw6_TextOrder.f k a0 a1 a2 = some true
theorem caravanlaw6_TextOrder.walk (P : caravanlaw6_TextOrder.Pure) (a0 : Int) (a1 : Int) (a2 : Int) (w : World) (hWd_ : Wd w) (w0 : (Lit.int .i32 a0).wf = true) (w1 : (Lit.int .i32 a1).wf = true) (w2 : (Lit.int .i32 a2).wf = true) :
 Calls Tryd.prog 5 #[.int .i32 a0, .int .i32 a1, .int .i32 a2] w fun e w' => e = .returned (.bool true) ∧ Below w.heap.size w w' := by
 obtain ⟨k, h⟩ := P a0 a1 a2 w0 w1 w2
 refine (caravanlaw6_TextOrder.calls k a0 a1 a2 true w h rfl hWd_).mono ?_
 rintro e w' ⟨rfl, hd⟩
 exact ⟨rfl, hd⟩

/-! ### caravanref5_Number: function 11 -/
mutual
def caravanref5_Number.j0 : Nat → ByteArray → Int → Int → Int → Bool → Option (Int × Bool)
 | 0, _, _, _, _, _ => none
 | k + 1, x0, x3, x4, x5, x14 => if x14 = true then (caravanref5_Number.j1 k x0 x3 1 (IntKind.u64.wrap (x5 + 1))) else (caravanref5_Number.j1 k x0 x3 x4 x5)
def caravanref5_Number.j1 : Nat → ByteArray → Int → Int → Int → Option (Int × Bool)
 | 0, _, _, _, _ => none
 | k + 1, x0, x3, x4, x5 => caravanref5_Number.l0 k x0 x3 x4 x5 x4
def caravanref5_Number.l0 : Nat → ByteArray → Int → Int → Int → Int → Option (Int × Bool)
 | 0, _, _, _, _, _ => none
 | k + 1, x0, x3, x4, x5, x6 => if x6 < (x0.size : Int) then (if 0 ≤ x6 then (if (bt x0 x6) < 48 then (some (0, false)) else (if (bt x0 x6) > 57 then (some (0, false)) else (if x3 > (IntKind.u64.wrap (Int.tdiv (IntKind.u64.wrap (x5 - (((bt x0 x6) - 48) % 256))) 10)) then (some (0, false)) else (caravanref5_Number.l0 k x0 (IntKind.u64.wrap ((IntKind.u64.wrap (10 * x3)) + (((bt x0 x6) - 48) % 256))) x4 x5 (wrap64 (x6 + 1)))))) else (none)) else (if x4 = 1 then (if (x0.size : Int) = x4 then (some (0, false)) else ((caravanref1_Digits.f k (wrap64 (IntKind.u64.wrap (-x3)))).bind fun t148 => (if t148.toList = x0.toList then (some (wrap64 (IntKind.u64.wrap (-x3)), true)) else (some (0, false))))) else (if (x0.size : Int) = x4 then (some (0, false)) else ((caravanref1_Digits.f k (wrap64 (x3))).bind fun t149 => (if t149.toList = x0.toList then (some (wrap64 (x3), true)) else (some (0, false))))))
end
def caravanref5_Number.f (k : Nat) (a0 : ByteArray) : Option (Int × Bool) := if a0.toList = ([] : List UInt8) then (caravanref5_Number.j0 k a0 0 0 9223372036854775807 false) else (if 0 < (a0.size : Int) then (caravanref5_Number.j0 k a0 0 0 9223372036854775807 ((bt a0 0) == 45)) else (none))
theorem caravanref5_Number.mono_l : ∀ k, (∀ y0 y1 y2 y3 y4, LeO (caravanref5_Number.j0 k y0 y1 y2 y3 y4) (caravanref5_Number.j0 (k + 1) y0 y1 y2 y3 y4)) ∧ (∀ y0 y1 y2 y3, LeO (caravanref5_Number.j1 k y0 y1 y2 y3) (caravanref5_Number.j1 (k + 1) y0 y1 y2 y3)) ∧ (∀ y0 y1 y2 y3 y4, LeO (caravanref5_Number.l0 k y0 y1 y2 y3 y4) (caravanref5_Number.l0 (k + 1) y0 y1 y2 y3 y4))
 | 0 => ⟨fun _ _ _ _ _ r h => by simp [caravanref5_Number.j0] at h, fun _ _ _ _ r h => by simp [caravanref5_Number.j1] at h, fun _ _ _ _ _ r h => by simp [caravanref5_Number.l0] at h⟩
 | k + 1 => by
  obtain ⟨ih0, ih1, ih2⟩ := caravanref5_Number.mono_l k
  refine ⟨?_, ?_, ?_⟩
  ·intro y0 y1 y2 y3 y4
   unfold caravanref5_Number.j0
   repeat' first
   | (with_reducible exact ih0 _ _ _ _ _)
   | (with_reducible exact ih1 _ _ _ _)
   | (with_reducible exact ih2 _ _ _ _ _)
   | (with_reducible exact caravanref1_Digits.mono _ _)
   | (with_reducible exact LeO.refl _)
   | (with_reducible exact LeO.none _)
   | (with_reducible refine LeO.ite ?_ ?_)
   | (with_reducible refine LeO.bind ?_ (fun _ => ?_))
   | exact ih0 _ _ _ _ _
   | exact ih1 _ _ _ _
   | exact ih2 _ _ _ _ _
   | exact caravanref1_Digits.mono _ _
   | exact LeO.none _
   | refine LeO.ite ?_ ?_
   | refine LeO.bind ?_ (fun _ => ?_)
  ·intro y0 y1 y2 y3
   unfold caravanref5_Number.j1
   repeat' first
   | (with_reducible exact ih0 _ _ _ _ _)
   | (with_reducible exact ih1 _ _ _ _)
   | (with_reducible exact ih2 _ _ _ _ _)
   | (with_reducible exact caravanref1_Digits.mono _ _)
   | (with_reducible exact LeO.refl _)
   | (with_reducible exact LeO.none _)
   | (with_reducible refine LeO.ite ?_ ?_)
   | (with_reducible refine LeO.bind ?_ (fun _ => ?_))
   | exact ih0 _ _ _ _ _
   | exact ih1 _ _ _ _
   | exact ih2 _ _ _ _ _
   | exact caravanref1_Digits.mono _ _
   | exact LeO.none _
   | refine LeO.ite ?_ ?_
   | refine LeO.bind ?_ (fun _ => ?_)
  ·intro y0 y1 y2 y3 y4
   unfold caravanref5_Number.l0
   repeat' first
   | (with_reducible exact ih0 _ _ _ _ _)
   | (with_reducible exact ih1 _ _ _ _)
   | (with_reducible exact ih2 _ _ _ _ _)
   | (with_reducible exact caravanref1_Digits.mono _ _)
   | (with_reducible exact LeO.refl _)
   | (with_reducible exact LeO.none _)
   | (with_reducible refine LeO.ite ?_ ?_)
   | (with_reducible refine LeO.bind ?_ (fun _ => ?_))
   | exact ih0 _ _ _ _ _
   | exact ih1 _ _ _ _
   | exact ih2 _ _ _ _ _
   | exact caravanref1_Digits.mono _ _
   | exact LeO.none _
   | refine LeO.ite ?_ ?_
   | refine LeO.bind ?_ (fun _ => ?_)
theorem caravanref5_Number.mono : ∀ a0 k, LeO (caravanref5_Number.f k a0) (caravanref5_Number.f (k + 1) a0) := by
 intro a0 k
 obtain ⟨ih0, ih1, ih2⟩ := caravanref5_Number.mono_l k
 unfold caravanref5_Number.f
 repeat' first
  | (with_reducible exact ih0 _ _ _ _ _)
  | (with_reducible exact ih1 _ _ _ _)
  | (with_reducible exact ih2 _ _ _ _ _)
  | (with_reducible exact caravanref1_Digits.mono _ _)
  | (with_reducible exact LeO.refl _)
  | (with_reducible exact LeO.none _)
  | (with_reducible refine LeO.ite ?_ ?_)
  | (with_reducible refine LeO.bind ?_ (fun _ => ?_))
  | exact ih0 _ _ _ _ _
  | exact ih1 _ _ _ _
  | exact ih2 _ _ _ _ _
  | exact caravanref1_Digits.mono _ _
  | exact LeO.none _
  | refine LeO.ite ?_ ?_
  | refine LeO.bind ?_ (fun _ => ?_)
set_option maxHeartbeats 8000000 in
set_option maxRecDepth 100000 in
theorem caravanref5_Number.calls (k : Nat) (a0 : ByteArray) (r1 : Int) (r2 : Bool) (w : World) (h : caravanref5_Number.f k a0 = some (r1, r2)) :
 Calls Tryd.prog 11 #[.string a0] w fun e w' => e = .returned (.agg #[.int .i64 r1, .bool r2]) ∧ Below w.heap.size w w' := by
 have hu33 := Tryd.underlying33
 have HB := Aside0.mk (Below.refl w.heap.size w)
 have H : (if a0.toList = ([] : List UInt8) then (caravanref5_Number.j0 k a0 0 0 9223372036854775807 false) else (if 0 < (a0.size : Int) then (caravanref5_Number.j0 k a0 0 0 9223372036854775807 ((bt a0 0) == 45)) else (none))) = some (r1, r2) := h
 clear h
 have HC2 := Aside0.mk H
 clear H
 go_enter Tryd.func11, Tryd.ntmps11
 go_upto_region 3 with (first | ((with_reducible refine gate_dst (N := 2) rfl ?_); refine box_event ?hg (N := 2) ?hd (cs := #[.int .i64 0, .bool false]) (t := 33) ?hr ?_; (case hd => rfl); (case hg => rfl); (case hr => first | (go_simp; done) | (go_simp; rfl)); intro gb147 hg w3 hbox hb; have n0_ := Aside0.mk (below_step (qdb35_ HB.out) hb); have n1_ := Aside0.mk (hbox); have n2_ := Aside0.mk ((by rw [hg]; exact (below_size (qdb35_ HB.out)) : w.heap.size ≤ gb147)); have n3_ := Aside0.mk ((by rw [hg]; exact (below_size (qdb35_ HB.out)) : w.heap.size ≤ gb147)); clear HB; have HB := n0_; have BK147 := n1_; have GW147 := n2_; have GE147 := n3_; clear n0_ n1_ n2_ n3_; clear hb hbox hg))
 (try simp only [Act.put, List.setIfInBounds_toArray, List.set_cons_zero, List.set_cons_succ])
 go_cut [14] (fun v14 wc => ∃ (kq : Nat) (x14_1 : Bool), v14 = .bool x14_1 ∧ Aside0 (caravanref5_Number.j0 kq a0 0 0 9223372036854775807 x14_1 = some (r1, r2)) ∧ Aside0 (kq ≤ k) ∧ Aside0 (wc.heap[gb147]? = some (.cells #[.int .i64 0, .bool false] 33 (0, 0))) ∧ Aside0 (Below w.heap.size w wc))
 case first =>
  have H := HC2.out
  clear HC2
  by_cases c4 : a0.toList = ([] : List UInt8)
  ·rw [if_pos c4] at H
   have c4b0 : (a0.toList == ([] : List UInt8)) = true := beq_iff_eq.mpr c4
   have c4b1 : (a0.toList != ([] : List UInt8)) = false := bne_eq_false_iff_eq.mpr c4
   clear c4
   (first | rw [c4b0] | (simp only [i64_w, i32_w]; rw [c4b0]) | skip)
   have H' := Aside0.mk H
   clear H
   go_wp2
   go_meet
   case rel => exact ⟨_, (false), (by first | rfl | (simp; done) | (simp [*]; done)), H', ⟨by first | omega | exact Nat.le_refl _⟩, ⟨by (with_reducible repeat (first | refine blk_drewN ?_ _ | refine blk_drew ?_ | refine blk_alloc ?_ _)); exact BK147.out⟩, ⟨(qed14_ HB.out GE147.out)⟩⟩
  ·rw [if_neg c4] at H
   have c4b0 : (a0.toList == ([] : List UInt8)) = false := beq_eq_false_iff_ne.mpr c4
   have c4b1 : (a0.toList != ([] : List UInt8)) = true := bne_iff_ne.mpr c4
   (first | rw [c4b0] | (simp only [i64_w, i32_w]; rw [c4b0]) | skip)
   by_cases c5 : 0 < (a0.size : Int)
   ·rw [if_pos c5] at H
    have c5b0 : decide (0 < (a0.size : Int)) = true := decide_eq_true c5
    have c5b1 : decide (0 < a0.size) = true := decide_eq_true (by omega)
    clear c5
    have H' := Aside0.mk H
    clear H
    have p6 : 0 ≤ (0 : Int) := (by omega)
    have q6 : 0 < a0.size := (by have : (0 : Int) < (a0.size : Int) := of_decide_eq_true (by first | (with_reducible assumption) | assumption); omega)
    have hx6 : ∀ h : 0 < a0.size, ((a0[0]'h).toNat : Int) = bt a0 0 := bt_at a0 0
    clear p6
    have qi6 : (0 < (a0.size : Int)) = True := eq_true (of_decide_eq_true (by first | (with_reducible assumption) | assumption))
    replace q6 := eq_true q6
    go_wp2
    go_meet
    case rel => exact ⟨_, (((bt a0 0) == 45)), (by first | rfl | (simp; done) | (simp [*]; done)), H', ⟨by first | omega | exact Nat.le_refl _⟩, ⟨by (with_reducible repeat (first | refine blk_drewN ?_ _ | refine blk_drew ?_ | refine blk_alloc ?_ _)); exact BK147.out⟩, ⟨(qed14_ HB.out GE147.out)⟩⟩
   ·rw [if_neg c5] at H
    exact absurd H (by simp)
 case rest =>
  clear HC2
  try clear c1
  try clear p2
  try clear c4
  try clear c4b0
  try clear c4b1
  try clear c5
  try clear c5b0
  try clear c5b1
  try clear p6
  try clear q6
  try clear hx6
  try clear qi6
  try clear p6
  try clear q6
  obtain ⟨kq, x14_1, rfl, HA, HJ1, BK147, HB⟩ := hcut
  cases kq with
  | zero => exact absurd HA.out (by simp [caravanref5_Number.j0])
  | succ kj1 =>
   have H := HA.out
   clear HA
   simp only [caravanref5_Number.j0] at H
   have HC7 := Aside0.mk H
   clear H
   go_upto_if 14 with (fail)
   go_cut [4, 5] (fun v4 v5 wc => ∃ (kq : Nat) (x4_6 : Int) (x5_6 : Int), v4 = .int .i64 x4_6 ∧ v5 = .int .u64 x5_6 ∧ Aside0 (caravanref5_Number.j1 kq a0 0 x4_6 x5_6 = some (r1, r2)) ∧ Aside0 (kq ≤ kj1) ∧ Aside0 (wc.heap[gb147]? = some (.cells #[.int .i64 0, .bool false] 33 (0, 0))) ∧ Aside0 (Below w.heap.size w wc))
   case first =>
    have H := HC7.out
    clear HC7
    by_cases c8 : x14_1 = true
    ·subst c8
     have H1 : (caravanref5_Number.j1 kj1 a0 0 1 (IntKind.u64.wrap (9223372036854775807 + 1))) = some (r1, r2) := by rw [if_pos rfl] at H; exact H
     clear H
     have H := H1
     clear H1
     have H' := Aside0.mk H
     clear H
     go_wp2
     go_meet
     case rel => exact ⟨_, (1), (IntKind.u64.wrap (9223372036854775807 + 1)), (by first | rfl | (simp; done) | (simp [*]; done)), (by first | rfl | (simp; done) | (simp [*]; done)), H', ⟨by have := HJ1.out; first | omega | exact Nat.le_refl _⟩, ⟨by (with_reducible repeat (first | refine blk_drewN ?_ _ | refine blk_drew ?_ | refine blk_alloc ?_ _)); exact BK147.out⟩, ⟨(qed14_ HB.out GE147.out)⟩⟩
    ·replace c8 := Bool.eq_false_iff.mpr c8
     subst c8
     have H1 : (caravanref5_Number.j1 kj1 a0 0 0 9223372036854775807) = some (r1, r2) := by rw [if_neg (show ¬ (false = true) by decide)] at H; exact H
     clear H
     have H := H1
     clear H1
     have H' := Aside0.mk H
     clear H
     go_wp2
     go_meet
     case rel => exact ⟨_, (0), (9223372036854775807), (by first | rfl | (simp; done) | (simp [*]; done)), (by first | rfl | (simp; done) | (simp [*]; done)), H', ⟨by have := HJ1.out; first | omega | exact Nat.le_refl _⟩, ⟨by (with_reducible repeat (first | refine blk_drewN ?_ _ | refine blk_drew ?_ | refine blk_alloc ?_ _)); exact BK147.out⟩, ⟨(qed14_ HB.out GE147.out)⟩⟩
   case rest =>
    clear HC7
    try clear c1
    try clear p2
    try clear c4
    try clear c4b0
    try clear c4b1
    try clear c5
    try clear c5b0
    try clear c5b1
    try clear p6
    try clear q6
    try clear hx6
    try clear qi6
    try clear c8
    try clear p2
    try clear p6
    try clear q6
    obtain ⟨kq, x4_6, x5_6, rfl, rfl, HA, HJ6, BK147, HB⟩ := hcut
    cases kq with
    | zero => exact absurd HA.out (by simp [caravanref5_Number.j1])
    | succ kj6 =>
     have H := HA.out
     clear HA
     simp only [caravanref5_Number.j1] at H
     have H' := Aside0.mk H
     clear H
     go_wp2
     go_loopg [3, 6] kj6 (fun kq v3 v6 w' => ∃ (x3_3 : Int) (x6_3 : Int) (x148000_3 : Int) (x148001_3 : Bool), v3 = .int .u64 x3_3 ∧ v6 = .int .i64 x6_3 ∧ Aside0 (caravanref5_Number.l0 kq a0 x3_3 x4_6 x5_6 x6_3 = some (r1, r2)) ∧ Aside0 (kq ≤ kj6) ∧ Aside0 (w'.heap[gb147]? = some (.cells #[.int .i64 x148000_3, .bool x148001_3] 33 (0, 0))) ∧ Aside0 (Below w.heap.size w w'))
     case atStart => exact ⟨(0), (x4_6), (0), (false), (by first | rfl | (simp; done) | (simp [*]; done)), (by first | rfl | (simp; done) | (simp [*]; done)), H', ⟨Nat.le_refl _⟩, ⟨by (with_reducible repeat (first | refine blk_drewN ?_ _ | refine blk_drew ?_ | refine blk_alloc ?_ _)); exact BK147.out⟩, ⟨(qed14_ HB.out GE147.out)⟩⟩
     case round =>
      clear H'
      try clear c1
      try clear p2
      try clear c4
      try clear c4b0
      try clear c4b1
      try clear c5
      try clear c5b0
      try clear c5b1
      try clear p6
      try clear q6
      try clear hx6
      try clear qi6
      try clear c8
      try clear p2
      try clear p6
      try clear q6
      obtain ⟨x3_3, x6_3, x148000_3, x148001_3, rfl, rfl, HA, HK3, BK147, HB⟩ := hrel
      cases gk with
      | zero => exact absurd HA.out (by simp [caravanref5_Number.l0])
      | succ k3 =>
       have H := HA.out
       clear HA
       simp only [caravanref5_Number.l0] at H
       by_cases c9 : x6_3 < (a0.size : Int)
       ·rw [if_pos c9] at H
        have c9b0 : decide (x6_3 < (a0.size : Int)) = true := decide_eq_true c9
        clear c9
        by_cases c10 : 0 ≤ x6_3
        ·rw [if_pos c10] at H
         have c10b0 : decide (0 ≤ x6_3) = true := decide_eq_true c10
         clear c10
         by_cases c12 : (bt a0 x6_3) < 48
         ·rw [if_pos c12] at H
          have c12b0 : decide ((bt a0 x6_3) < 48) = true := decide_eq_true c12
          clear c12
          simp only [Option.some.injEq, Prod.mk.injEq] at H
          obtain ⟨rfl, rfl⟩ := H
          have p11 : 0 ≤ (x6_3 : Int) := of_decide_eq_true (by first | (with_reducible assumption) | assumption)
          have q11 : x6_3 < (a0.size : Int) := of_decide_eq_true (by first | (with_reducible assumption) | assumption)
          have hx11 := bt_at a0 x6_3
          replace p11 := eq_true p11
          replace q11 := eq_true q11
          have hcz13_0 : wr.cell? ⟨gb147, 0, none⟩ = some (.int .i64 x148000_3) := (blk_cell BK147.out 0).trans rfl
          have hcz13_1 : wr.cell? ⟨gb147, 1, none⟩ = some (.bool x148001_3) := (blk_cell BK147.out 1).trans rfl
          have hfz13_0 := blk_frozen BK147.out 0
          have hfz13_1 := blk_frozen BK147.out 1
          go_wp2
          refine bodyPost_ret (results_cell_row rfl _ _ gb147 33 #[.int .i64 0, .bool false] (0, 0) _ rfl (by (with_reducible repeat (first | refine blk_drewN ?_ _ | refine blk_drew ?_ | refine blk_alloc ?_ _)); refine blk_put (cs := #[.int .i64 0, .bool x148001_3]) ?_ 1 _ rfl; (with_reducible repeat (first | refine blk_drewN ?_ _ | refine blk_drew ?_ | refine blk_alloc ?_ _)); refine blk_put (cs := #[.int .i64 x148000_3, .bool x148001_3]) ?_ 0 _ rfl; (with_reducible repeat (first | refine blk_drewN ?_ _ | refine blk_drew ?_ | refine blk_alloc ?_ _)); exact BK147.out) Tryd.underlying33 rfl (by kernel_rfl)) rfl ?_
          exact ⟨by first | rfl | (simp [errW_none, errW_some] <;> rfl) | (simp [*, errW_none, errW_some] <;> rfl), (qed14_ HB.out GE147.out)⟩
         ·rw [if_neg c12] at H
          have c12b0 : decide ((bt a0 x6_3) < 48) = false := decide_eq_false c12
          clear c12
          by_cases c15 : (bt a0 x6_3) > 57
          ·rw [if_pos c15] at H
           have c15b0 : decide (57 < (bt a0 x6_3)) = true := decide_eq_true c15
           clear c15
           simp only [Option.some.injEq, Prod.mk.injEq] at H
           obtain ⟨rfl, rfl⟩ := H
           have p11 : 0 ≤ (x6_3 : Int) := of_decide_eq_true (by first | (with_reducible assumption) | assumption)
           have q11 : x6_3 < (a0.size : Int) := of_decide_eq_true (by first | (with_reducible assumption) | assumption)
           have hx11 := bt_at a0 x6_3
           replace p11 := eq_true p11
           replace q11 := eq_true q11
           have p14 : 0 ≤ (x6_3 : Int) := of_decide_eq_true (by first | (with_reducible assumption) | assumption)
           have q14 : x6_3 < (a0.size : Int) := of_decide_eq_true (by first | (with_reducible assumption) | assumption)
           have hx14 := bt_at a0 x6_3
           replace p14 := eq_true p14
           replace q14 := eq_true q14
           have hcz16_0 : wr.cell? ⟨gb147, 0, none⟩ = some (.int .i64 x148000_3) := (blk_cell BK147.out 0).trans rfl
           have hcz16_1 : wr.cell? ⟨gb147, 1, none⟩ = some (.bool x148001_3) := (blk_cell BK147.out 1).trans rfl
           have hfz16_0 := blk_frozen BK147.out 0
           have hfz16_1 := blk_frozen BK147.out 1
           go_wp2
           refine bodyPost_ret (results_cell_row rfl _ _ gb147 33 #[.int .i64 0, .bool false] (0, 0) _ rfl (by (with_reducible repeat (first | refine blk_drewN ?_ _ | refine blk_drew ?_ | refine blk_alloc ?_ _)); refine blk_put (cs := #[.int .i64 0, .bool x148001_3]) ?_ 1 _ rfl; (with_reducible repeat (first | refine blk_drewN ?_ _ | refine blk_drew ?_ | refine blk_alloc ?_ _)); refine blk_put (cs := #[.int .i64 x148000_3, .bool x148001_3]) ?_ 0 _ rfl; (with_reducible repeat (first | refine blk_drewN ?_ _ | refine blk_drew ?_ | refine blk_alloc ?_ _)); exact BK147.out) Tryd.underlying33 rfl (by kernel_rfl)) rfl ?_
           exact ⟨by first | rfl | (simp [errW_none, errW_some] <;> rfl) | (simp [*, errW_none, errW_some] <;> rfl), (qed14_ HB.out GE147.out)⟩
          ·rw [if_neg c15] at H
           have c15b0 : decide (57 < (bt a0 x6_3)) = false := decide_eq_false c15
           clear c15
           by_cases c18 : x3_3 > (IntKind.u64.wrap (Int.tdiv (IntKind.u64.wrap (x5_6 - (((bt a0 x6_3) - 48) % 256))) 10))
           ·rw [if_pos c18] at H
            have c18b0 : decide ((IntKind.u64.wrap (Int.tdiv (IntKind.u64.wrap (x5_6 - (((bt a0 x6_3) - 48) % 256))) 10)) < x3_3) = true := decide_eq_true c18
            clear c18
            simp only [Option.some.injEq, Prod.mk.injEq] at H
            obtain ⟨rfl, rfl⟩ := H
            have p11 : 0 ≤ (x6_3 : Int) := of_decide_eq_true (by first | (with_reducible assumption) | assumption)
            have q11 : x6_3 < (a0.size : Int) := of_decide_eq_true (by first | (with_reducible assumption) | assumption)
            have hx11 := bt_at a0 x6_3
            replace p11 := eq_true p11
            replace q11 := eq_true q11
            have p14 : 0 ≤ (x6_3 : Int) := of_decide_eq_true (by first | (with_reducible assumption) | assumption)
            have q14 : x6_3 < (a0.size : Int) := of_decide_eq_true (by first | (with_reducible assumption) | assumption)
            have hx14 := bt_at a0 x6_3
            replace p14 := eq_true p14
            replace q14 := eq_true q14
            have p17 : 0 ≤ (x6_3 : Int) := of_decide_eq_true (by first | (with_reducible assumption) | assumption)
            have q17 : x6_3 < (a0.size : Int) := of_decide_eq_true (by first | (with_reducible assumption) | assumption)
            have hx17 := bt_at a0 x6_3
            replace p17 := eq_true p17
            replace q17 := eq_true q17
            have hcz19_0 : wr.cell? ⟨gb147, 0, none⟩ = some (.int .i64 x148000_3) := (blk_cell BK147.out 0).trans rfl
            have hcz19_1 : wr.cell? ⟨gb147, 1, none⟩ = some (.bool x148001_3) := (blk_cell BK147.out 1).trans rfl
            have hfz19_0 := blk_frozen BK147.out 0
            have hfz19_1 := blk_frozen BK147.out 1
            go_wp2
            refine bodyPost_ret (results_cell_row rfl _ _ gb147 33 #[.int .i64 0, .bool false] (0, 0) _ rfl (by (with_reducible repeat (first | refine blk_drewN ?_ _ | refine blk_drew ?_ | refine blk_alloc ?_ _)); refine blk_put (cs := #[.int .i64 0, .bool x148001_3]) ?_ 1 _ rfl; (with_reducible repeat (first | refine blk_drewN ?_ _ | refine blk_drew ?_ | refine blk_alloc ?_ _)); refine blk_put (cs := #[.int .i64 x148000_3, .bool x148001_3]) ?_ 0 _ rfl; (with_reducible repeat (first | refine blk_drewN ?_ _ | refine blk_drew ?_ | refine blk_alloc ?_ _)); exact BK147.out) Tryd.underlying33 rfl (by kernel_rfl)) rfl ?_
            exact ⟨by first | rfl | (simp [errW_none, errW_some] <;> rfl) | (simp [*, errW_none, errW_some] <;> rfl), (qed14_ HB.out GE147.out)⟩
           ·rw [if_neg c18] at H
            have c18b0 : decide ((IntKind.u64.wrap (Int.tdiv (IntKind.u64.wrap (x5_6 - (((bt a0 x6_3) - 48) % 256))) 10)) < x3_3) = false := decide_eq_false c18
            clear c18
            have H' := Aside0.mk H
            clear H
            have p11 : 0 ≤ (x6_3 : Int) := of_decide_eq_true (by first | (with_reducible assumption) | assumption)
            have q11 : x6_3 < (a0.size : Int) := of_decide_eq_true (by first | (with_reducible assumption) | assumption)
            have hx11 := bt_at a0 x6_3
            replace p11 := eq_true p11
            replace q11 := eq_true q11
            have p14 : 0 ≤ (x6_3 : Int) := of_decide_eq_true (by first | (with_reducible assumption) | assumption)
            have q14 : x6_3 < (a0.size : Int) := of_decide_eq_true (by first | (with_reducible assumption) | assumption)
            have hx14 := bt_at a0 x6_3
            replace p14 := eq_true p14
            replace q14 := eq_true q14
            have p17 : 0 ≤ (x6_3 : Int) := of_decide_eq_true (by first | (with_reducible assumption) | assumption)
            have q17 : x6_3 < (a0.size : Int) := of_decide_eq_true (by first | (with_reducible assumption) | assumption)
            have hx17 := bt_at a0 x6_3
            replace p17 := eq_true p17
            replace q17 := eq_true q17
            have p20 : 0 ≤ (x6_3 : Int) := of_decide_eq_true (by first | (with_reducible assumption) | assumption)
            have q20 : x6_3 < (a0.size : Int) := of_decide_eq_true (by first | (with_reducible assumption) | assumption)
            have hx20 := bt_at a0 x6_3
            replace p20 := eq_true p20
            replace q20 := eq_true q20
            go_wp2
            go_roundg k3
            case measure => have := HJ1.out; have := HJ6.out; have := HK3.out; omega
            case rel => exact ⟨(IntKind.u64.wrap ((IntKind.u64.wrap (10 * x3_3)) + (((bt a0 x6_3) - 48) % 256))), (wrap64 (x6_3 + 1)), (x148000_3), (x148001_3), (by first | rfl | (simp; done) | (simp [*]; done)), (by first | rfl | (simp; done) | (simp [*]; done)), H', ⟨by have := HJ1.out; have := HJ6.out; have := HK3.out; omega⟩, ⟨by (with_reducible repeat (first | refine blk_drewN ?_ _ | refine blk_drew ?_ | refine blk_alloc ?_ _)); exact BK147.out⟩, ⟨(qed14_ HB.out GE147.out)⟩⟩
        ·rw [if_neg c10] at H
         exact absurd H (by simp)
       ·rw [if_neg c9] at H
        have c9b0 : decide (x6_3 < (a0.size : Int)) = false := decide_eq_false c9
        clear c9
        by_cases c21 : x4_6 = 1
        ·rw [if_pos c21] at H
         have c21b0 : (x4_6 == 1) = true := beq_iff_eq.mpr c21
         have c21b1 : (x4_6 != 1) = false := bne_eq_false_iff_eq.mpr c21
         clear c21
         by_cases c22 : (a0.size : Int) = x4_6
         ·rw [if_pos c22] at H
          have c22b0 : ((a0.size : Int) == x4_6) = true := beq_iff_eq.mpr c22
          have c22b1 : ((a0.size : Int) != x4_6) = false := bne_eq_false_iff_eq.mpr c22
          clear c22
          simp only [Option.some.injEq, Prod.mk.injEq] at H
          obtain ⟨rfl, rfl⟩ := H
          have hcz23_0 : wr.cell? ⟨gb147, 0, none⟩ = some (.int .i64 x148000_3) := (blk_cell BK147.out 0).trans rfl
          have hcz23_1 : wr.cell? ⟨gb147, 1, none⟩ = some (.bool x148001_3) := (blk_cell BK147.out 1).trans rfl
          have hfz23_0 := blk_frozen BK147.out 0
          have hfz23_1 := blk_frozen BK147.out 1
          go_wp2
          refine bodyPost_ret (results_cell_row rfl _ _ gb147 33 #[.int .i64 0, .bool false] (0, 0) _ rfl (by (with_reducible repeat (first | refine blk_drewN ?_ _ | refine blk_drew ?_ | refine blk_alloc ?_ _)); refine blk_put (cs := #[.int .i64 0, .bool x148001_3]) ?_ 1 _ rfl; (with_reducible repeat (first | refine blk_drewN ?_ _ | refine blk_drew ?_ | refine blk_alloc ?_ _)); refine blk_put (cs := #[.int .i64 x148000_3, .bool x148001_3]) ?_ 0 _ rfl; (with_reducible repeat (first | refine blk_drewN ?_ _ | refine blk_drew ?_ | refine blk_alloc ?_ _)); exact BK147.out) Tryd.underlying33 rfl (by kernel_rfl)) rfl ?_
          exact ⟨by first | rfl | (simp [errW_none, errW_some] <;> rfl) | (simp [*, errW_none, errW_some] <;> rfl), (qed14_ HB.out GE147.out)⟩
         ·rw [if_neg c22] at H
          have c22b0 : ((a0.size : Int) == x4_6) = false := beq_eq_false_iff_ne.mpr c22
          have c22b1 : ((a0.size : Int) != x4_6) = true := bne_iff_ne.mpr c22
          replace H := Option.bind_eq_some_iff.mp H
          obtain ⟨t148, A240, H⟩ := H
          replace H : (if t148.toList = a0.toList then (some (wrap64 (IntKind.u64.wrap (-x3_3)), true)) else (some (0, false))) = some (r1, r2) := H
          have A24 := Aside0.mk A240
          clear A240
          by_cases c25 : t148.toList = a0.toList
          ·rw [if_pos c25] at H
           have c25b0 : (t148.toList == a0.toList) = true := beq_iff_eq.mpr c25
           have c25b1 : (t148.toList != a0.toList) = false := bne_eq_false_iff_eq.mpr c25
           clear c25
           simp only [Option.some.injEq, Prod.mk.injEq] at H
           obtain ⟨rfl, rfl⟩ := H
           go_wp2_with (first | (go_at_call 7; (with_reducible refine (caravanref1_Digits.calls k3 (wrap64 (IntKind.u64.wrap (-x3_3))) t148 _ A24.out).mono ?_); rintro e w26 ⟨rfl, hb⟩; have n0_ := Aside0.mk (blk_below (g := gb147) (o := .cells #[.int .i64 x148000_3, .bool x148001_3] 33 (0, 0)) (q1466_ BK147.out) hb); have n1_ := Aside0.mk (below_step (qed14_ HB.out GE147.out) hb); clear BK147; clear HB; have BK147 := n0_; have HB := n1_; clear n0_ n1_; (try clear hb); (try clear hb2); (try clear hk); (try clear hi); have hcz27_0 : w26.cell? ⟨gb147, 0, none⟩ = some (.int .i64 x148000_3) := (blk_cell BK147.out 0).trans rfl; have hcz27_1 : w26.cell? ⟨gb147, 1, none⟩ = some (.bool x148001_3) := (blk_cell BK147.out 1).trans rfl; have hfz27_0 := blk_frozen BK147.out 0; have hfz27_1 := blk_frozen BK147.out 1))
           refine bodyPost_ret (results_cell_row rfl _ _ gb147 33 #[.int .i64 (wrap64 (IntKind.u64.wrap (-x3_3))), .bool true] (0, 0) _ rfl (by (with_reducible repeat (first | refine blk_drewN ?_ _ | refine blk_drew ?_ | refine blk_alloc ?_ _)); refine blk_put (cs := #[.int .i64 (wrap64 (IntKind.u64.wrap (-x3_3))), .bool x148001_3]) ?_ 1 _ rfl; (with_reducible repeat (first | refine blk_drewN ?_ _ | refine blk_drew ?_ | refine blk_alloc ?_ _)); refine blk_put (cs := #[.int .i64 x148000_3, .bool x148001_3]) ?_ 0 _ rfl; (with_reducible repeat (first | refine blk_drewN ?_ _ | refine blk_drew ?_ | refine blk_alloc ?_ _)); exact BK147.out) Tryd.underlying33 rfl (by kernel_rfl)) rfl ?_
           exact ⟨by first | rfl | (simp [errW_none, errW_some] <;> rfl) | (simp [*, errW_none, errW_some] <;> rfl), (qed14_ HB.out GE147.out)⟩
          ·rw [if_neg c25] at H
           have c25b0 : (t148.toList == a0.toList) = false := beq_eq_false_iff_ne.mpr c25
           have c25b1 : (t148.toList != a0.toList) = true := bne_iff_ne.mpr c25
           simp only [Option.some.injEq, Prod.mk.injEq] at H
           obtain ⟨rfl, rfl⟩ := H
           go_wp2_with (first | (go_at_call 7; (with_reducible refine (caravanref1_Digits.calls k3 (wrap64 (IntKind.u64.wrap (-x3_3))) t148 _ A24.out).mono ?_); rintro e w28 ⟨rfl, hb⟩; have n0_ := Aside0.mk (blk_below (g := gb147) (o := .cells #[.int .i64 x148000_3, .bool x148001_3] 33 (0, 0)) (q1466_ BK147.out) hb); have n1_ := Aside0.mk (below_step (qed14_ HB.out GE147.out) hb); clear BK147; clear HB; have BK147 := n0_; have HB := n1_; clear n0_ n1_; (try clear hb); (try clear hb2); (try clear hk); (try clear hi); have hcz29_0 : w28.cell? ⟨gb147, 0, none⟩ = some (.int .i64 x148000_3) := (blk_cell BK147.out 0).trans rfl; have hcz29_1 : w28.cell? ⟨gb147, 1, none⟩ = some (.bool x148001_3) := (blk_cell BK147.out 1).trans rfl; have hfz29_0 := blk_frozen BK147.out 0; have hfz29_1 := blk_frozen BK147.out 1))
           refine bodyPost_ret (results_cell_row rfl _ _ gb147 33 #[.int .i64 0, .bool false] (0, 0) _ rfl (by (with_reducible repeat (first | refine blk_drewN ?_ _ | refine blk_drew ?_ | refine blk_alloc ?_ _)); refine blk_put (cs := #[.int .i64 0, .bool x148001_3]) ?_ 1 _ rfl; (with_reducible repeat (first | refine blk_drewN ?_ _ | refine blk_drew ?_ | refine blk_alloc ?_ _)); refine blk_put (cs := #[.int .i64 x148000_3, .bool x148001_3]) ?_ 0 _ rfl; (with_reducible repeat (first | refine blk_drewN ?_ _ | refine blk_drew ?_ | refine blk_alloc ?_ _)); exact BK147.out) Tryd.underlying33 rfl (by kernel_rfl)) rfl ?_
           exact ⟨by first | rfl | (simp [errW_none, errW_some] <;> rfl) | (simp [*, errW_none, errW_some] <;> rfl), (qed14_ HB.out GE147.out)⟩
        ·rw [if_neg c21] at H
         have c21b0 : (x4_6 == 1) = false := beq_eq_false_iff_ne.mpr c21
         have c21b1 : (x4_6 != 1) = true := bne_iff_ne.mpr c21
         by_cases c30 : (a0.size : Int) = x4_6
         ·rw [if_pos c30] at H
          have c30b0 : ((a0.size : Int) == x4_6) = true := beq_iff_eq.mpr c30
          have c30b1 : ((a0.size : Int) != x4_6) = false := bne_eq_false_iff_eq.mpr c30
          clear c30
          simp only [Option.some.injEq, Prod.mk.injEq] at H
          obtain ⟨rfl, rfl⟩ := H
          have hcz31_0 : wr.cell? ⟨gb147, 0, none⟩ = some (.int .i64 x148000_3) := (blk_cell BK147.out 0).trans rfl
          have hcz31_1 : wr.cell? ⟨gb147, 1, none⟩ = some (.bool x148001_3) := (blk_cell BK147.out 1).trans rfl
          have hfz31_0 := blk_frozen BK147.out 0
          have hfz31_1 := blk_frozen BK147.out 1
          go_wp2
          refine bodyPost_ret (results_cell_row rfl _ _ gb147 33 #[.int .i64 0, .bool false] (0, 0) _ rfl (by (with_reducible repeat (first | refine blk_drewN ?_ _ | refine blk_drew ?_ | refine blk_alloc ?_ _)); refine blk_put (cs := #[.int .i64 0, .bool x148001_3]) ?_ 1 _ rfl; (with_reducible repeat (first | refine blk_drewN ?_ _ | refine blk_drew ?_ | refine blk_alloc ?_ _)); refine blk_put (cs := #[.int .i64 x148000_3, .bool x148001_3]) ?_ 0 _ rfl; (with_reducible repeat (first | refine blk_drewN ?_ _ | refine blk_drew ?_ | refine blk_alloc ?_ _)); exact BK147.out) Tryd.underlying33 rfl (by kernel_rfl)) rfl ?_
          exact ⟨by first | rfl | (simp [errW_none, errW_some] <;> rfl) | (simp [*, errW_none, errW_some] <;> rfl), (qed14_ HB.out GE147.out)⟩
         ·rw [if_neg c30] at H
          have c30b0 : ((a0.size : Int) == x4_6) = false := beq_eq_false_iff_ne.mpr c30
          have c30b1 : ((a0.size : Int) != x4_6) = true := bne_iff_ne.mpr c30
          replace H := Option.bind_eq_some_iff.mp H
          obtain ⟨t149, A320, H⟩ := H
          replace H : (if t149.toList = a0.toList then (some (wrap64 (x3_3), true)) else (some (0, false))) = some (r1, r2) := H
          have A32 := Aside0.mk A320
          clear A320
          by_cases c33 : t149.toList = a0.toList
          ·rw [if_pos c33] at H
           have c33b0 : (t149.toList == a0.toList) = true := beq_iff_eq.mpr c33
           have c33b1 : (t149.toList != a0.toList) = false := bne_eq_false_iff_eq.mpr c33
           clear c33
           simp only [Option.some.injEq, Prod.mk.injEq] at H
           obtain ⟨rfl, rfl⟩ := H
           go_wp2_with (first | (go_at_call 7; (with_reducible refine (caravanref1_Digits.calls k3 (wrap64 (x3_3)) t149 _ A32.out).mono ?_); rintro e w34 ⟨rfl, hb⟩; have n0_ := Aside0.mk (blk_below (g := gb147) (o := .cells #[.int .i64 x148000_3, .bool x148001_3] 33 (0, 0)) (q1466_ BK147.out) hb); have n1_ := Aside0.mk (below_step (qed14_ HB.out GE147.out) hb); clear BK147; clear HB; have BK147 := n0_; have HB := n1_; clear n0_ n1_; (try clear hb); (try clear hb2); (try clear hk); (try clear hi); have hcz35_0 : w34.cell? ⟨gb147, 0, none⟩ = some (.int .i64 x148000_3) := (blk_cell BK147.out 0).trans rfl; have hcz35_1 : w34.cell? ⟨gb147, 1, none⟩ = some (.bool x148001_3) := (blk_cell BK147.out 1).trans rfl; have hfz35_0 := blk_frozen BK147.out 0; have hfz35_1 := blk_frozen BK147.out 1))
           refine bodyPost_ret (results_cell_row rfl _ _ gb147 33 #[.int .i64 (wrap64 (x3_3)), .bool true] (0, 0) _ rfl (by (with_reducible repeat (first | refine blk_drewN ?_ _ | refine blk_drew ?_ | refine blk_alloc ?_ _)); refine blk_put (cs := #[.int .i64 (wrap64 (x3_3)), .bool x148001_3]) ?_ 1 _ rfl; (with_reducible repeat (first | refine blk_drewN ?_ _ | refine blk_drew ?_ | refine blk_alloc ?_ _)); refine blk_put (cs := #[.int .i64 x148000_3, .bool x148001_3]) ?_ 0 _ rfl; (with_reducible repeat (first | refine blk_drewN ?_ _ | refine blk_drew ?_ | refine blk_alloc ?_ _)); exact BK147.out) Tryd.underlying33 rfl (by kernel_rfl)) rfl ?_
           exact ⟨by first | rfl | (simp [errW_none, errW_some] <;> rfl) | (simp [*, errW_none, errW_some] <;> rfl), (qed14_ HB.out GE147.out)⟩
          ·rw [if_neg c33] at H
           have c33b0 : (t149.toList == a0.toList) = false := beq_eq_false_iff_ne.mpr c33
           have c33b1 : (t149.toList != a0.toList) = true := bne_iff_ne.mpr c33
           simp only [Option.some.injEq, Prod.mk.injEq] at H
           obtain ⟨rfl, rfl⟩ := H
           go_wp2_with (first | (go_at_call 7; (with_reducible refine (caravanref1_Digits.calls k3 (wrap64 (x3_3)) t149 _ A32.out).mono ?_); rintro e w36 ⟨rfl, hb⟩; have n0_ := Aside0.mk (blk_below (g := gb147) (o := .cells #[.int .i64 x148000_3, .bool x148001_3] 33 (0, 0)) (q1466_ BK147.out) hb); have n1_ := Aside0.mk (below_step (qed14_ HB.out GE147.out) hb); clear BK147; clear HB; have BK147 := n0_; have HB := n1_; clear n0_ n1_; (try clear hb); (try clear hb2); (try clear hk); (try clear hi); have hcz37_0 : w36.cell? ⟨gb147, 0, none⟩ = some (.int .i64 x148000_3) := (blk_cell BK147.out 0).trans rfl; have hcz37_1 : w36.cell? ⟨gb147, 1, none⟩ = some (.bool x148001_3) := (blk_cell BK147.out 1).trans rfl; have hfz37_0 := blk_frozen BK147.out 0; have hfz37_1 := blk_frozen BK147.out 1))
           refine bodyPost_ret (results_cell_row rfl _ _ gb147 33 #[.int .i64 0, .bool false] (0, 0) _ rfl (by (with_reducible repeat (first | refine blk_drewN ?_ _ | refine blk_drew ?_ | refine blk_alloc ?_ _)); refine blk_put (cs := #[.int .i64 0, .bool x148001_3]) ?_ 1 _ rfl; (with_reducible repeat (first | refine blk_drewN ?_ _ | refine blk_drew ?_ | refine blk_alloc ?_ _)); refine blk_put (cs := #[.int .i64 x148000_3, .bool x148001_3]) ?_ 0 _ rfl; (with_reducible repeat (first | refine blk_drewN ?_ _ | refine blk_drew ?_ | refine blk_alloc ?_ _)); exact BK147.out) Tryd.underlying33 rfl (by kernel_rfl)) rfl ?_
           exact ⟨by first | rfl | (simp [errW_none, errW_some] <;> rfl) | (simp [*, errW_none, errW_some] <;> rfl), (qed14_ HB.out GE147.out)⟩

/-! ### caravanref5_Add: function 14 -/
def caravanref5_Add.f (k : Nat) (a0 : ByteArray) (a1 : Int) : Option (ByteArray × Bool) := (caravanref5_Number.f k a0).bind fun bt151 => (if bt151.2 = true then (if ((decide ((wrap64 (bt151.1 + a1)) ≥ bt151.1)) != (decide (a1 ≥ 0))) = true then (some ((⟨#[]⟩ : ByteArray), false)) else ((caravanref1_Digits.f k (wrap64 (bt151.1 + a1))).bind fun t154 => (some (t154, true)))) else (some ((⟨#[]⟩ : ByteArray), false)))
theorem caravanref5_Add.mono : ∀ a0 a1 k, LeO (caravanref5_Add.f k a0 a1) (caravanref5_Add.f (k + 1) a0 a1) := by
 intro a0 a1 k
 unfold caravanref5_Add.f
 repeat' first
  | (with_reducible exact caravanref1_Digits.mono _ _)
  | (with_reducible exact caravanref5_Number.mono _ _)
  | (with_reducible exact LeO.refl _)
  | (with_reducible exact LeO.none _)
  | (with_reducible refine LeO.ite ?_ ?_)
  | (with_reducible refine LeO.bind ?_ (fun _ => ?_))
  | exact caravanref1_Digits.mono _ _
  | exact caravanref5_Number.mono _ _
  | exact LeO.none _
  | refine LeO.ite ?_ ?_
  | refine LeO.bind ?_ (fun _ => ?_)
set_option maxHeartbeats 8000000 in
set_option maxRecDepth 100000 in
theorem caravanref5_Add.calls (k : Nat) (a0 : ByteArray) (a1 : Int) (r1 : ByteArray) (r2 : Bool) (w : World) (h : caravanref5_Add.f k a0 a1 = some (r1, r2)) :
 Calls Tryd.prog 14 #[.string a0, .int .i64 a1] w fun e w' => e = .returned (.agg #[.string r1, .bool r2]) ∧ Below w.heap.size w w' := by
 have hu37 := Tryd.underlying37
 have hu33 := Tryd.underlying33
 have HB := Aside0.mk (Below.refl w.heap.size w)
 have H : ((caravanref5_Number.f k a0).bind fun bt151 => (if bt151.2 = true then (if ((decide ((wrap64 (bt151.1 + a1)) ≥ bt151.1)) != (decide (a1 ≥ 0))) = true then (some ((⟨#[]⟩ : ByteArray), false)) else ((caravanref1_Digits.f k (wrap64 (bt151.1 + a1))).bind fun t154 => (some (t154, true)))) else (some ((⟨#[]⟩ : ByteArray), false)))) = some (r1, r2) := h
 clear h
 replace H := Option.bind_eq_some_iff.mp H
 obtain ⟨⟨t151, t152⟩, A30, H⟩ := H
 replace H : (if t152 = true then (if ((decide ((wrap64 (t151 + a1)) ≥ t151)) != (decide (a1 ≥ 0))) = true then (some ((⟨#[]⟩ : ByteArray), false)) else ((caravanref1_Digits.f k (wrap64 (t151 + a1))).bind fun t154 => (some (t154, true)))) else (some ((⟨#[]⟩ : ByteArray), false))) = some (r1, r2) := H
 have A3 := Aside0.mk A30
 clear A30
 by_cases c4 : t152 = true
 ·subst c4
  have H1 : (if ((decide ((wrap64 (t151 + a1)) ≥ t151)) != (decide (a1 ≥ 0))) = true then (some ((⟨#[]⟩ : ByteArray), false)) else ((caravanref1_Digits.f k (wrap64 (t151 + a1))).bind fun t154 => (some (t154, true)))) = some (r1, r2) := by rw [if_pos rfl] at H; exact H
  clear H
  have H := H1
  clear H1
  by_cases c5 : ((decide ((wrap64 (t151 + a1)) ≥ t151)) != (decide (a1 ≥ 0))) = true
  ·rw [if_pos c5] at H
   have c5b0 : ((decide ((wrap64 (t151 + a1)) ≥ t151)) != (decide (a1 ≥ 0))) = true := c5
   (try (have c5b1 : decide ((decide ((wrap64 (t151 + a1)) ≥ t151)) = (decide (a1 ≥ 0))) = false := by simpa using c5))
   (try (have c5b2 : ((decide ((wrap64 (t151 + a1)) ≥ t151)) == (decide (a1 ≥ 0))) = false := by simpa using c5))
   (try (have c5b3 : ¬ ((decide ((wrap64 (t151 + a1)) ≥ t151)) = (decide (a1 ≥ 0))) := by simpa using c5))
   clear c5
   simp only [Option.some.injEq, Prod.mk.injEq] at H
   obtain ⟨rfl, rfl⟩ := H
   go_enter Tryd.func14, Tryd.ntmps14
   go_wp2_with (first | ((with_reducible refine gate_dst (N := 4) rfl ?_); refine box_event ?hg (N := 4) ?hd (cs := #[.string (⟨#[]⟩ : ByteArray), .bool false]) (t := 37) ?hr ?_; (case hd => rfl); (case hg => rfl); (case hr => first | (go_simp; done) | (go_simp; rfl)); intro gb150 hg w6 hbox hb; have n0_ := Aside0.mk (below_step (qdb35_ HB.out) hb); have n1_ := Aside0.mk (hbox); have n2_ := Aside0.mk ((by rw [hg]; exact (below_size (qdb35_ HB.out)) : w.heap.size ≤ gb150)); have n3_ := Aside0.mk ((by rw [hg]; exact (below_size (qdb35_ HB.out)) : w.heap.size ≤ gb150)); clear HB; have HB := n0_; have BK150 := n1_; have GW150 := n2_; have GE150 := n3_; clear n0_ n1_ n2_ n3_; clear hb hbox hg) | ((with_reducible refine gate_callee (f := 11) rfl ?_); refine goesL_ (some 8) rfl rfl Tryd.func11 (by kernel_rfl) rfl #[.string a0] rfl qM_ ?_; (with_reducible refine (caravanref5_Number.calls k a0 t151 true _ A3.out).mono ?_); rintro e w7 ⟨rfl, hb⟩; refine ⟨_, rfl, ?_⟩; have n0_ := Aside0.mk (blk_below (g := gb150) (o := .cells #[.string (⟨#[]⟩ : ByteArray), .bool false] 37 (0, 0)) (q1466_ BK150.out) hb); have n1_ := Aside0.mk (below_step (qed14_ HB.out GE150.out) hb); clear BK150; clear HB; have BK150 := n0_; have HB := n1_; clear n0_ n1_; (try clear hb); (try clear hb2); (try clear hk); (try clear hi)) | ((with_reducible refine gate_dst (N := 5) rfl ?_); refine box_event ?hg (N := 5) ?hd (cs := #[.int .i64 0, .bool false]) (t := 33) ?hr ?_; (case hd => rfl); (case hg => rfl); (case hr => first | (go_simp; done) | (go_simp; rfl)); intro gb153 hg w8 hbox hb; have n0_ := Aside0.mk (blk_below (g := gb150) (o := .cells #[.string (⟨#[]⟩ : ByteArray), .bool false] 37 (0, 0)) (q1466_ BK150.out) hb); have n1_ := Aside0.mk (below_step (qed14_ HB.out GE150.out) hb); have n2_ := Aside0.mk (hbox); have n3_ := Aside0.mk ((by rw [hg]; exact (below_size (qed14_ HB.out GE150.out)) : w.heap.size ≤ gb153)); have n4_ := Aside0.mk ((by rw [hg]; exact (below_size (qed14_ HB.out GE150.out)) : w.heap.size ≤ gb153)); have n5_ := Aside0.mk ((by rw [hg]; exact Nat.ne_of_lt (blk_lt (g := gb150) (o := .cells #[.string (⟨#[]⟩ : ByteArray), .bool false] 37 (0, 0)) (q1466_ BK150.out)) : gb150 ≠ gb153)); have n6_ := Aside0.mk ((by rw [hg]; exact Nat.ne_of_gt (blk_lt (g := gb150) (o := .cells #[.string (⟨#[]⟩ : ByteArray), .bool false] 37 (0, 0)) (q1466_ BK150.out)) : gb153 ≠ gb150)); clear BK150; clear HB; have BK150 := n0_; have HB := n1_; have BK153 := n2_; have GW153 := n3_; have GE153 := n4_; have NB150_153 := n5_; have NB153_150 := n6_; clear n0_ n1_ n2_ n3_ n4_ n5_ n6_; clear hb hbox hg; have hnb9 := NB153_150.out; have hnc9 := NB150_153.out; have hcz10_0 : w8.cell? ⟨gb153, 0, none⟩ = some (.int .i64 0) := (blk_cell BK153.out 0).trans rfl; have hcz10_1 : w8.cell? ⟨gb153, 1, none⟩ = some (.bool false) := (blk_cell BK153.out 1).trans rfl; have hfz10_0 := blk_frozen BK153.out 0; have hfz10_1 := blk_frozen BK153.out 1; have hcz11_0 : w8.cell? ⟨gb150, 0, none⟩ = some (.string (⟨#[]⟩ : ByteArray)) := (blk_cell BK150.out 0).trans rfl; have hcz11_1 : w8.cell? ⟨gb150, 1, none⟩ = some (.bool false) := (blk_cell BK150.out 1).trans rfl; have hfz11_0 := blk_frozen BK150.out 0; have hfz11_1 := blk_frozen BK150.out 1))
   refine bodyPost_ret (results_cell_row rfl _ _ gb150 37 #[.string (⟨#[]⟩ : ByteArray), .bool false] (0, 0) _ rfl (by (with_reducible repeat (first | refine blk_drewN ?_ _ | refine blk_drew ?_ | refine blk_alloc ?_ _)); refine blk_put (cs := #[.string (⟨#[]⟩ : ByteArray), .bool false]) ?_ 1 _ rfl; (with_reducible repeat (first | refine blk_drewN ?_ _ | refine blk_drew ?_ | refine blk_alloc ?_ _)); refine blk_put (cs := #[.string (⟨#[]⟩ : ByteArray), .bool false]) ?_ 0 _ rfl; (with_reducible repeat (first | refine blk_drewN ?_ _ | refine blk_drew ?_ | refine blk_alloc ?_ _)); refine blk_far ?_ NB150_153.out _; (with_reducible repeat (first | refine blk_drewN ?_ _ | refine blk_drew ?_ | refine blk_alloc ?_ _)); refine blk_far ?_ NB150_153.out _; (with_reducible repeat (first | refine blk_drewN ?_ _ | refine blk_drew ?_ | refine blk_alloc ?_ _)); exact BK150.out) Tryd.underlying37 rfl (by kernel_rfl)) rfl ?_
   exact ⟨by first | rfl | (simp [errW_none, errW_some] <;> rfl) | (simp [*, errW_none, errW_some] <;> rfl), (q8f57_ HB.out GE150.out GE153.out)⟩
  ·rw [if_neg c5] at H
   have c5b0 : ((decide ((wrap64 (t151 + a1)) ≥ t151)) != (decide (a1 ≥ 0))) = false := by simpa using c5
   (try (have c5b1 : decide ((decide ((wrap64 (t151 + a1)) ≥ t151)) = (decide (a1 ≥ 0))) = true := by simpa using c5))
   (try (have c5b2 : ((decide ((wrap64 (t151 + a1)) ≥ t151)) == (decide (a1 ≥ 0))) = true := by simpa using c5))
   clear c5
   replace H := Option.bind_eq_some_iff.mp H
   obtain ⟨t154, A120, H⟩ := H
   replace H : (some (t154, true)) = some (r1, r2) := H
   have A12 := Aside0.mk A120
   clear A120
   simp only [Option.some.injEq, Prod.mk.injEq] at H
   obtain ⟨rfl, rfl⟩ := H
   go_enter Tryd.func14, Tryd.ntmps14
   go_wp2_with (first | ((with_reducible refine gate_dst (N := 4) rfl ?_); refine box_event ?hg (N := 4) ?hd (cs := #[.string (⟨#[]⟩ : ByteArray), .bool false]) (t := 37) ?hr ?_; (case hd => rfl); (case hg => rfl); (case hr => first | (go_simp; done) | (go_simp; rfl)); intro gb150 hg w13 hbox hb; have n0_ := Aside0.mk (below_step (qdb35_ HB.out) hb); have n1_ := Aside0.mk (hbox); have n2_ := Aside0.mk ((by rw [hg]; exact (below_size (qdb35_ HB.out)) : w.heap.size ≤ gb150)); have n3_ := Aside0.mk ((by rw [hg]; exact (below_size (qdb35_ HB.out)) : w.heap.size ≤ gb150)); clear HB; have HB := n0_; have BK150 := n1_; have GW150 := n2_; have GE150 := n3_; clear n0_ n1_ n2_ n3_; clear hb hbox hg) | ((with_reducible refine gate_callee (f := 11) rfl ?_); refine goesL_ (some 8) rfl rfl Tryd.func11 (by kernel_rfl) rfl #[.string a0] rfl qM_ ?_; (with_reducible refine (caravanref5_Number.calls k a0 t151 true _ A3.out).mono ?_); rintro e w14 ⟨rfl, hb⟩; refine ⟨_, rfl, ?_⟩; have n0_ := Aside0.mk (blk_below (g := gb150) (o := .cells #[.string (⟨#[]⟩ : ByteArray), .bool false] 37 (0, 0)) (q1466_ BK150.out) hb); have n1_ := Aside0.mk (below_step (qed14_ HB.out GE150.out) hb); clear BK150; clear HB; have BK150 := n0_; have HB := n1_; clear n0_ n1_; (try clear hb); (try clear hb2); (try clear hk); (try clear hi)) | ((with_reducible refine gate_dst (N := 5) rfl ?_); refine box_event ?hg (N := 5) ?hd (cs := #[.int .i64 0, .bool false]) (t := 33) ?hr ?_; (case hd => rfl); (case hg => rfl); (case hr => first | (go_simp; done) | (go_simp; rfl)); intro gb153 hg w15 hbox hb; have n0_ := Aside0.mk (blk_below (g := gb150) (o := .cells #[.string (⟨#[]⟩ : ByteArray), .bool false] 37 (0, 0)) (q1466_ BK150.out) hb); have n1_ := Aside0.mk (below_step (qed14_ HB.out GE150.out) hb); have n2_ := Aside0.mk (hbox); have n3_ := Aside0.mk ((by rw [hg]; exact (below_size (qed14_ HB.out GE150.out)) : w.heap.size ≤ gb153)); have n4_ := Aside0.mk ((by rw [hg]; exact (below_size (qed14_ HB.out GE150.out)) : w.heap.size ≤ gb153)); have n5_ := Aside0.mk ((by rw [hg]; exact Nat.ne_of_lt (blk_lt (g := gb150) (o := .cells #[.string (⟨#[]⟩ : ByteArray), .bool false] 37 (0, 0)) (q1466_ BK150.out)) : gb150 ≠ gb153)); have n6_ := Aside0.mk ((by rw [hg]; exact Nat.ne_of_gt (blk_lt (g := gb150) (o := .cells #[.string (⟨#[]⟩ : ByteArray), .bool false] 37 (0, 0)) (q1466_ BK150.out)) : gb153 ≠ gb150)); clear BK150; clear HB; have BK150 := n0_; have HB := n1_; have BK153 := n2_; have GW153 := n3_; have GE153 := n4_; have NB150_153 := n5_; have NB153_150 := n6_; clear n0_ n1_ n2_ n3_ n4_ n5_ n6_; clear hb hbox hg; have hnb16 := NB153_150.out; have hnc16 := NB150_153.out; have hcz17_0 : w15.cell? ⟨gb153, 0, none⟩ = some (.int .i64 0) := (blk_cell BK153.out 0).trans rfl; have hcz17_1 : w15.cell? ⟨gb153, 1, none⟩ = some (.bool false) := (blk_cell BK153.out 1).trans rfl; have hfz17_0 := blk_frozen BK153.out 0; have hfz17_1 := blk_frozen BK153.out 1) | ((with_reducible refine gate_callee (f := 7) rfl ?_); refine goesL_ (some 27) rfl rfl Tryd.func7 (by kernel_rfl) rfl #[.int .i64 (wrap64 (t151 + a1))] rfl qM_ ?_; (with_reducible refine (caravanref1_Digits.calls k (wrap64 (t151 + a1)) t154 _ A12.out).mono ?_); rintro e w18 ⟨rfl, hb⟩; refine ⟨_, rfl, ?_⟩; have n0_ := Aside0.mk (blk_below (g := gb150) (o := .cells #[.string (⟨#[]⟩ : ByteArray), .bool false] 37 (0, 0)) (qe049_ NB150_153.out BK150.out) hb); have n1_ := Aside0.mk (blk_below (g := gb153) (o := .cells #[.int .i64 t151, .bool true] 33 (0, 0)) (by (with_reducible repeat (first | refine blk_drewN ?_ _ | refine blk_drew ?_ | refine blk_alloc ?_ _)); refine blk_put (cs := #[.int .i64 t151, .bool false]) ?_ 1 _ rfl; (with_reducible repeat (first | refine blk_drewN ?_ _ | refine blk_drew ?_ | refine blk_alloc ?_ _)); refine blk_put (cs := #[.int .i64 0, .bool false]) ?_ 0 _ rfl; (with_reducible repeat (first | refine blk_drewN ?_ _ | refine blk_drew ?_ | refine blk_alloc ?_ _)); exact BK153.out) hb); have n2_ := Aside0.mk (below_step (q8f57_ HB.out GE150.out GE153.out) hb); clear BK150; clear BK153; clear HB; have BK150 := n0_; have BK153 := n1_; have HB := n2_; clear n0_ n1_ n2_; (try clear hb); (try clear hb2); (try clear hk); (try clear hi); have hcz19_0 : w18.cell? ⟨gb150, 0, none⟩ = some (.string (⟨#[]⟩ : ByteArray)) := (blk_cell BK150.out 0).trans rfl; have hcz19_1 : w18.cell? ⟨gb150, 1, none⟩ = some (.bool false) := (blk_cell BK150.out 1).trans rfl; have hfz19_0 := blk_frozen BK150.out 0; have hfz19_1 := blk_frozen BK150.out 1))
   refine bodyPost_ret (results_cell_row rfl _ _ gb150 37 #[.string t154, .bool true] (0, 0) _ rfl (by (with_reducible repeat (first | refine blk_drewN ?_ _ | refine blk_drew ?_ | refine blk_alloc ?_ _)); refine blk_put (cs := #[.string t154, .bool false]) ?_ 1 _ rfl; (with_reducible repeat (first | refine blk_drewN ?_ _ | refine blk_drew ?_ | refine blk_alloc ?_ _)); refine blk_put (cs := #[.string (⟨#[]⟩ : ByteArray), .bool false]) ?_ 0 _ rfl; (with_reducible repeat (first | refine blk_drewN ?_ _ | refine blk_drew ?_ | refine blk_alloc ?_ _)); exact BK150.out) Tryd.underlying37 rfl (by kernel_rfl)) rfl ?_
   exact ⟨by first | rfl | (simp [errW_none, errW_some] <;> rfl) | (simp [*, errW_none, errW_some] <;> rfl), (q8f57_ HB.out GE150.out GE153.out)⟩
 ·replace c4 := Bool.eq_false_iff.mpr c4
  subst c4
  have H1 : (some ((⟨#[]⟩ : ByteArray), false)) = some (r1, r2) := by rw [if_neg (show ¬ (false = true) by decide)] at H; exact H
  clear H
  have H := H1
  clear H1
  simp only [Option.some.injEq, Prod.mk.injEq] at H
  obtain ⟨rfl, rfl⟩ := H
  go_enter Tryd.func14, Tryd.ntmps14
  go_wp2_with (first | ((with_reducible refine gate_dst (N := 4) rfl ?_); refine box_event ?hg (N := 4) ?hd (cs := #[.string (⟨#[]⟩ : ByteArray), .bool false]) (t := 37) ?hr ?_; (case hd => rfl); (case hg => rfl); (case hr => first | (go_simp; done) | (go_simp; rfl)); intro gb150 hg w20 hbox hb; have n0_ := Aside0.mk (below_step (qdb35_ HB.out) hb); have n1_ := Aside0.mk (hbox); have n2_ := Aside0.mk ((by rw [hg]; exact (below_size (qdb35_ HB.out)) : w.heap.size ≤ gb150)); have n3_ := Aside0.mk ((by rw [hg]; exact (below_size (qdb35_ HB.out)) : w.heap.size ≤ gb150)); clear HB; have HB := n0_; have BK150 := n1_; have GW150 := n2_; have GE150 := n3_; clear n0_ n1_ n2_ n3_; clear hb hbox hg) | ((with_reducible refine gate_callee (f := 11) rfl ?_); refine goesL_ (some 8) rfl rfl Tryd.func11 (by kernel_rfl) rfl #[.string a0] rfl qM_ ?_; (with_reducible refine (caravanref5_Number.calls k a0 t151 false _ A3.out).mono ?_); rintro e w21 ⟨rfl, hb⟩; refine ⟨_, rfl, ?_⟩; have n0_ := Aside0.mk (blk_below (g := gb150) (o := .cells #[.string (⟨#[]⟩ : ByteArray), .bool false] 37 (0, 0)) (q1466_ BK150.out) hb); have n1_ := Aside0.mk (below_step (qed14_ HB.out GE150.out) hb); clear BK150; clear HB; have BK150 := n0_; have HB := n1_; clear n0_ n1_; (try clear hb); (try clear hb2); (try clear hk); (try clear hi)) | ((with_reducible refine gate_dst (N := 5) rfl ?_); refine box_event ?hg (N := 5) ?hd (cs := #[.int .i64 0, .bool false]) (t := 33) ?hr ?_; (case hd => rfl); (case hg => rfl); (case hr => first | (go_simp; done) | (go_simp; rfl)); intro gb153 hg w22 hbox hb; have n0_ := Aside0.mk (blk_below (g := gb150) (o := .cells #[.string (⟨#[]⟩ : ByteArray), .bool false] 37 (0, 0)) (q1466_ BK150.out) hb); have n1_ := Aside0.mk (below_step (qed14_ HB.out GE150.out) hb); have n2_ := Aside0.mk (hbox); have n3_ := Aside0.mk ((by rw [hg]; exact (below_size (qed14_ HB.out GE150.out)) : w.heap.size ≤ gb153)); have n4_ := Aside0.mk ((by rw [hg]; exact (below_size (qed14_ HB.out GE150.out)) : w.heap.size ≤ gb153)); have n5_ := Aside0.mk ((by rw [hg]; exact Nat.ne_of_lt (blk_lt (g := gb150) (o := .cells #[.string (⟨#[]⟩ : ByteArray), .bool false] 37 (0, 0)) (q1466_ BK150.out)) : gb150 ≠ gb153)); have n6_ := Aside0.mk ((by rw [hg]; exact Nat.ne_of_gt (blk_lt (g := gb150) (o := .cells #[.string (⟨#[]⟩ : ByteArray), .bool false] 37 (0, 0)) (q1466_ BK150.out)) : gb153 ≠ gb150)); clear BK150; clear HB; have BK150 := n0_; have HB := n1_; have BK153 := n2_; have GW153 := n3_; have GE153 := n4_; have NB150_153 := n5_; have NB153_150 := n6_; clear n0_ n1_ n2_ n3_ n4_ n5_ n6_; clear hb hbox hg; have hnb23 := NB153_150.out; have hnc23 := NB150_153.out; have hcz24_0 : w22.cell? ⟨gb153, 0, none⟩ = some (.int .i64 0) := (blk_cell BK153.out 0).trans rfl; have hcz24_1 : w22.cell? ⟨gb153, 1, none⟩ = some (.bool false) := (blk_cell BK153.out 1).trans rfl; have hfz24_0 := blk_frozen BK153.out 0; have hfz24_1 := blk_frozen BK153.out 1; have hcz25_0 : w22.cell? ⟨gb150, 0, none⟩ = some (.string (⟨#[]⟩ : ByteArray)) := (blk_cell BK150.out 0).trans rfl; have hcz25_1 : w22.cell? ⟨gb150, 1, none⟩ = some (.bool false) := (blk_cell BK150.out 1).trans rfl; have hfz25_0 := blk_frozen BK150.out 0; have hfz25_1 := blk_frozen BK150.out 1))
  refine bodyPost_ret (results_cell_row rfl _ _ gb150 37 #[.string (⟨#[]⟩ : ByteArray), .bool false] (0, 0) _ rfl (by (with_reducible repeat (first | refine blk_drewN ?_ _ | refine blk_drew ?_ | refine blk_alloc ?_ _)); refine blk_put (cs := #[.string (⟨#[]⟩ : ByteArray), .bool false]) ?_ 1 _ rfl; (with_reducible repeat (first | refine blk_drewN ?_ _ | refine blk_drew ?_ | refine blk_alloc ?_ _)); refine blk_put (cs := #[.string (⟨#[]⟩ : ByteArray), .bool false]) ?_ 0 _ rfl; (with_reducible repeat (first | refine blk_drewN ?_ _ | refine blk_drew ?_ | refine blk_alloc ?_ _)); refine blk_far ?_ NB150_153.out _; (with_reducible repeat (first | refine blk_drewN ?_ _ | refine blk_drew ?_ | refine blk_alloc ?_ _)); refine blk_far ?_ NB150_153.out _; (with_reducible repeat (first | refine blk_drewN ?_ _ | refine blk_drew ?_ | refine blk_alloc ?_ _)); exact BK150.out) Tryd.underlying37 rfl (by kernel_rfl)) rfl ?_
  exact ⟨by first | rfl | (simp [errW_none, errW_some] <;> rfl) | (simp [*, errW_none, errW_some] <;> rfl), (q8f57_ HB.out GE150.out GE153.out)⟩

end Go.Proofs.YtfmhhahhomnkbaaDoor.G
