/- What functions of the translation come to, and their calls' proofs; by a program of mine over the kit's print, with contracts given by hand beside. Conditions: where a plain function tells none, nothing is said. -/
import Derived.Test.YtelgfangaigncaaG0
import Derived.Test.YtelgfangaigncaaG1
import Derived.Test.YtelgfangaigncaaG3
import Derived.Test.YtelgfangaigncaaGOf
namespace Go.Proofs.Ytelgfangaigncaa.G
open Go.RowKit Go.Proofs.YtelgfangaigncaaW.PrintWords Go.Proofs.YtelgfangaigncaaW.PrintLast Go.Proofs.YtelgfangaigncaaW.PrintMore
attribute [local go_sem] max2_int min2_int max_two min_two max_three min_three max_four min_four   -- for this text's walks alone
set_option linter.unusedVariables false
set_option linter.unusedSimpArgs false

/-! ### caravanlaw9_SetsOrder: function 4 -/
mutual
def caravanlaw9_SetsOrder.j0 : Nat → List ByteArray → ByteArray → Int → Bool → Option (Bool)
 | 0, _, _, _, _ => none
 | k + 1, x0, x1, x2, x25 => if x25 = true then ((caravanlaw9_awake.f).bind fun t221 => (some t221)) else (if (x0.length : Int) = 0 then (none) else ((some (([] : List ByteArray) : List ByteArray)).bind fun y222 => (if 0 ≤ (Int.tmod (wrap64 (x2)) (x0.length : Int)) then (if (Int.tmod (wrap64 (x2)) (x0.length : Int)) ≤ (x0.length : Int) then (if y222.length + (x0.drop ((Int.tmod (wrap64 (x2)) (x0.length : Int)) : Int).toNat).length < 8796093022208 then ((some (y222 ++ (x0.drop ((Int.tmod (wrap64 (x2)) (x0.length : Int)) : Int).toNat) : List ByteArray)).bind fun y226 => (if y226.length + (x0.take ((Int.tmod (wrap64 (x2)) (x0.length : Int)) : Int).toNat).length < 8796093022208 then ((some (y226 ++ (x0.take ((Int.tmod (wrap64 (x2)) (x0.length : Int)) : Int).toNat) : List ByteArray)).bind fun y230 => (if (Int.tmod (wrap64 (x2)) (x0.length : Int)) < (x0.length : Int) then ((some (([rdOf ByteArray.empty x0 (Int.tmod (wrap64 (x2)) (x0.length : Int))] : List ByteArray) : List ByteArray)).bind fun y234 => (if y230.length + y234.length < 8796093022208 then ((sets_Of.f x0).bind fun t240 => ((sets_Of.f (y230 ++ y234)).bind fun t243 => (caravanlaw9_SetsOrder.l0 k x0 x1 t240 t243 false 0))) else (none))) else (none))) else (none))) else (none)) else (none)) else (none))))
def caravanlaw9_SetsOrder.l0 : Nat → List ByteArray → ByteArray → List ByteArray → List ByteArray → Bool → Int → Option (Bool)
 | 0, _, _, _, _, _, _ => none
 | k + 1, x0, x1, x9, x10, x11, x12 => if x12 < (x0.length : Int) then (if x11 = true then (if 0 ≤ x12 then ((sets_Has.f k x9 (rdOf ByteArray.empty x0 x12)).bind fun t247 => (if t247 = true then (caravanlaw9_SetsOrder.l0 k x0 x1 x9 x10 true (wrap64 (x12 + 1))) else (some false))) else (none)) else (if 0 ≤ x12 then ((sets_Has.f k x9 (rdOf ByteArray.empty x0 x12)).bind fun t250 => (if t250 = true then (caravanlaw9_SetsOrder.l0 k x0 x1 x9 x10 ((rdOf ByteArray.empty x0 x12).toList == x1.toList) (wrap64 (x12 + 1))) else (some false))) else (none))) else (caravanlaw9_SetsOrder.l1 k x0 x1 x9 x10 x11 1)
def caravanlaw9_SetsOrder.l1 : Nat → List ByteArray → ByteArray → List ByteArray → List ByteArray → Bool → Int → Option (Bool)
 | 0, _, _, _, _, _, _ => none
 | k + 1, x0, x1, x9, x10, x11, x13 => if x13 < (x9.length : Int) then (if 0 ≤ (wrap64 (x13 - 1)) then (if (wrap64 (x13 - 1)) < (x9.length : Int) then (if 0 ≤ x13 then (if ((Op.bytesLess ((rdOf ByteArray.empty x9 (wrap64 (x13 - 1))).toList) ((rdOf ByteArray.empty x9 x13).toList)) = true) then (caravanlaw9_SetsOrder.l1 k x0 x1 x9 x10 x11 (wrap64 (x13 + 1))) else (some false)) else (none)) else (none)) else (none)) else ((caravanref1_Texts.f k x9 x10).bind fun t253 => (if t253 = true then ((sets_Has.f k x9 x1).bind fun t254 => (if (t254 == x11) = true then (if (x9.length : Int) ≤ (x0.length : Int) then ((caravanlaw9_awake.f).bind fun t255 => (some t255)) else (some false)) else (some false))) else (some false)))
end
def caravanlaw9_SetsOrder.f (k : Nat) (l0 : List ByteArray) (a1 : ByteArray) (a2 : Int) : Option (Bool) := if (l0.length : Int) = 0 then (caravanlaw9_SetsOrder.j0 k l0 a1 a2 true) else ((caravanlaw9_great.f k l0).bind fun t220 => (if t220 = true then (caravanlaw9_SetsOrder.j0 k l0 a1 a2 true) else (caravanlaw9_SetsOrder.j0 k l0 a1 a2 (decide ((a1.size : Int) > 200)))))
theorem caravanlaw9_SetsOrder.mono_l : ∀ k, (∀ y0 y1 y2 y3, LeO (caravanlaw9_SetsOrder.j0 k y0 y1 y2 y3) (caravanlaw9_SetsOrder.j0 (k + 1) y0 y1 y2 y3)) ∧ (∀ y0 y1 y2 y3 y4 y5, LeO (caravanlaw9_SetsOrder.l0 k y0 y1 y2 y3 y4 y5) (caravanlaw9_SetsOrder.l0 (k + 1) y0 y1 y2 y3 y4 y5)) ∧ (∀ y0 y1 y2 y3 y4 y5, LeO (caravanlaw9_SetsOrder.l1 k y0 y1 y2 y3 y4 y5) (caravanlaw9_SetsOrder.l1 (k + 1) y0 y1 y2 y3 y4 y5))
 | 0 => ⟨fun _ _ _ _ r h => by simp [caravanlaw9_SetsOrder.j0] at h, fun _ _ _ _ _ _ r h => by simp [caravanlaw9_SetsOrder.l0] at h, fun _ _ _ _ _ _ r h => by simp [caravanlaw9_SetsOrder.l1] at h⟩
 | k + 1 => by
  obtain ⟨ih0, ih1, ih2⟩ := caravanlaw9_SetsOrder.mono_l k
  refine ⟨?_, ?_, ?_⟩
  ·intro y0 y1 y2 y3
   unfold caravanlaw9_SetsOrder.j0
   repeat' first
   | (with_reducible exact ih0 _ _ _ _)
   | (with_reducible exact ih1 _ _ _ _ _ _)
   | (with_reducible exact ih2 _ _ _ _ _ _)
   | (with_reducible exact caravanlaw9_great.mono _ _)
   | (with_reducible exact caravanref1_Texts.mono _ _ _)
   | (with_reducible exact sets_Has.mono _ _ _)
   | (with_reducible exact LeO.refl _)
   | (with_reducible exact LeO.none _)
   | (with_reducible refine LeO.ite ?_ ?_)
   | (with_reducible refine LeO.bind ?_ (fun _ => ?_))
   | exact ih0 _ _ _ _
   | exact ih1 _ _ _ _ _ _
   | exact ih2 _ _ _ _ _ _
   | exact caravanlaw9_great.mono _ _
   | exact caravanref1_Texts.mono _ _ _
   | exact sets_Has.mono _ _ _
   | exact LeO.none _
   | refine LeO.ite ?_ ?_
   | refine LeO.bind ?_ (fun _ => ?_)
  ·intro y0 y1 y2 y3 y4 y5
   unfold caravanlaw9_SetsOrder.l0
   repeat' first
   | (with_reducible exact ih0 _ _ _ _)
   | (with_reducible exact ih1 _ _ _ _ _ _)
   | (with_reducible exact ih2 _ _ _ _ _ _)
   | (with_reducible exact caravanlaw9_great.mono _ _)
   | (with_reducible exact caravanref1_Texts.mono _ _ _)
   | (with_reducible exact sets_Has.mono _ _ _)
   | (with_reducible exact LeO.refl _)
   | (with_reducible exact LeO.none _)
   | (with_reducible refine LeO.ite ?_ ?_)
   | (with_reducible refine LeO.bind ?_ (fun _ => ?_))
   | exact ih0 _ _ _ _
   | exact ih1 _ _ _ _ _ _
   | exact ih2 _ _ _ _ _ _
   | exact caravanlaw9_great.mono _ _
   | exact caravanref1_Texts.mono _ _ _
   | exact sets_Has.mono _ _ _
   | exact LeO.none _
   | refine LeO.ite ?_ ?_
   | refine LeO.bind ?_ (fun _ => ?_)
  ·intro y0 y1 y2 y3 y4 y5
   unfold caravanlaw9_SetsOrder.l1
   repeat' first
   | (with_reducible exact ih0 _ _ _ _)
   | (with_reducible exact ih1 _ _ _ _ _ _)
   | (with_reducible exact ih2 _ _ _ _ _ _)
   | (with_reducible exact caravanlaw9_great.mono _ _)
   | (with_reducible exact caravanref1_Texts.mono _ _ _)
   | (with_reducible exact sets_Has.mono _ _ _)
   | (with_reducible exact LeO.refl _)
   | (with_reducible exact LeO.none _)
   | (with_reducible refine LeO.ite ?_ ?_)
   | (with_reducible refine LeO.bind ?_ (fun _ => ?_))
   | exact ih0 _ _ _ _
   | exact ih1 _ _ _ _ _ _
   | exact ih2 _ _ _ _ _ _
   | exact caravanlaw9_great.mono _ _
   | exact caravanref1_Texts.mono _ _ _
   | exact sets_Has.mono _ _ _
   | exact LeO.none _
   | refine LeO.ite ?_ ?_
   | refine LeO.bind ?_ (fun _ => ?_)
theorem caravanlaw9_SetsOrder.mono : ∀ a0 a1 a2 k, LeO (caravanlaw9_SetsOrder.f k a0 a1 a2) (caravanlaw9_SetsOrder.f (k + 1) a0 a1 a2) := by
 intro a0 a1 a2 k
 obtain ⟨ih0, ih1, ih2⟩ := caravanlaw9_SetsOrder.mono_l k
 unfold caravanlaw9_SetsOrder.f
 repeat' first
  | (with_reducible exact ih0 _ _ _ _)
  | (with_reducible exact ih1 _ _ _ _ _ _)
  | (with_reducible exact ih2 _ _ _ _ _ _)
  | (with_reducible exact caravanlaw9_great.mono _ _)
  | (with_reducible exact caravanref1_Texts.mono _ _ _)
  | (with_reducible exact sets_Has.mono _ _ _)
  | (with_reducible exact LeO.refl _)
  | (with_reducible exact LeO.none _)
  | (with_reducible refine LeO.ite ?_ ?_)
  | (with_reducible refine LeO.bind ?_ (fun _ => ?_))
  | exact ih0 _ _ _ _
  | exact ih1 _ _ _ _ _ _
  | exact ih2 _ _ _ _ _ _
  | exact caravanlaw9_great.mono _ _
  | exact caravanref1_Texts.mono _ _ _
  | exact sets_Has.mono _ _ _
  | exact LeO.none _
  | refine LeO.ite ?_ ?_
  | refine LeO.bind ?_ (fun _ => ?_)
def caravanlaw9_SetsOrder.T4 : Bool × List (List Nat × List Nat) := (true, [([], []), ([], []), ([], []), ([1, 2], [1, 2]), ([0, 3], [0, 3]), ([], []), ([], []), ([5, 6], [5, 6]), ([4, 7, 4], [4, 7]), ([], []), ([], []), ([9, 10], [9, 10]), ([11], [11]), ([12], [12]), ([8, 13, 8], [8, 13]), ([14, 14, 0, 1, 2, 3, 4, 5, 6, 7, 8, 9, 10, 11, 12, 13, 14], [14])])
def caravanlaw9_SetsOrder.B4 : List Nat := [0, 0, 0, 6, 15, 0, 0, 96, 255, 0, 0, 1536, 3584, 7680, 16383, 32767]
theorem caravanlaw9_SetsOrder.tab4 : rtab .any (opsOf Try.f4 4) = caravanlaw9_SetsOrder.T4 := by kernel_rfl
theorem caravanlaw9_SetsOrder.bits4 : waitsOk caravanlaw9_SetsOrder.T4.2 caravanlaw9_SetsOrder.B4 = true := by kernel_rfl
def caravanlaw9_SetsOrder.T16 : Bool × List (List Nat × List Nat) := (true, [([], []), ([], []), ([1], [1]), ([0, 2], [0, 2]), ([3], [3]), ([], []), ([], []), ([5, 6], [5, 6]), ([7], [7]), ([4, 8], [4, 8])])
def caravanlaw9_SetsOrder.B16 : List Nat := [0, 0, 2, 7, 15, 0, 0, 96, 224, 511]
theorem caravanlaw9_SetsOrder.tab16 : rtab .any (opsOf Try.f4 16) = caravanlaw9_SetsOrder.T16 := by kernel_rfl
theorem caravanlaw9_SetsOrder.bits16 : waitsOk caravanlaw9_SetsOrder.T16.2 caravanlaw9_SetsOrder.B16 = true := by kernel_rfl
set_option maxHeartbeats 8000000 in
set_option maxRecDepth 100000 in
theorem caravanlaw9_SetsOrder.calls (k : Nat) (A0 : Option Addr) (c0 : Nat) (l0 : List ByteArray) (a1 : ByteArray) (a2 : Int) (r : Bool) (w : World) (hr0 : Kd.C Kd.string w A0 l0.length l0) (hc0 : l0.length ≤ c0) (h : caravanlaw9_SetsOrder.f k l0 a1 a2 = some r) (hrt_ : r = true) :
 Calls Try.prog 4 #[.slice A0 l0.length c0, .string a1, .int .u8 a2] w fun e w' => e = .returned (.bool r) ∧ Below w.heap.size w w' := by
 have HR0 := Aside0.mk hr0
 have HC0 := Aside0.mk hc0
 clear hr0 hc0
 have HB := Aside0.mk (Below.refl w.heap.size w)
 have H : (if (l0.length : Int) = 0 then (caravanlaw9_SetsOrder.j0 k l0 a1 a2 true) else ((caravanlaw9_great.f k l0).bind fun t220 => (if t220 = true then (caravanlaw9_SetsOrder.j0 k l0 a1 a2 true) else (caravanlaw9_SetsOrder.j0 k l0 a1 a2 (decide ((a1.size : Int) > 200)))))) = some r := h
 clear h
 have HC4 := Aside0.mk H
 clear H
 go_enter Try.func4, Try.ntmps4
 go_upto_region 1 with (fail)
 go_cut [25] (fun v25 wc => ∃ (kq : Nat) (x25_3 : Bool), v25 = .bool x25_3 ∧ Aside0 (caravanlaw9_SetsOrder.j0 kq l0 a1 a2 x25_3 = some r) ∧ Aside0 (kq ≤ k) ∧ Aside0 (Below w.heap.size w wc))
 case first =>
  have H := HC4.out
  clear HC4
  by_cases c5 : (l0.length : Int) = 0
  ·rw [if_pos c5] at H
   have c5b0 : ((l0.length : Int) == 0) = true := beq_iff_eq.mpr c5
   have c5b1 : ((l0.length : Int) != 0) = false := bne_eq_false_iff_eq.mpr c5
   clear c5
   (first | rw [c5b0] | (simp only [i64_w, i32_w]; rw [c5b0]) | skip)
   have H' := Aside0.mk H
   clear H
   go_wp2
   go_meet
   case rel => exact ⟨_, (true), (by first | rfl | (simp; done) | (simp [*]; done)), H', ⟨by first | omega | exact Nat.le_refl _⟩, ⟨(qdb35_ HB.out)⟩⟩
  ·rw [if_neg c5] at H
   have c5b0 : ((l0.length : Int) == 0) = false := beq_eq_false_iff_ne.mpr c5
   have c5b1 : ((l0.length : Int) != 0) = true := bne_iff_ne.mpr c5
   have c5b2 : ¬ (l0 = []) := fun h_ => c5 (by rw [h_]; rfl)
   (first | rw [c5b0] | (simp only [i64_w, i32_w]; rw [c5b0]) | skip)
   replace H := Option.bind_eq_some_iff.mp H
   obtain ⟨t220, A60, H⟩ := H
   replace H : (if t220 = true then (caravanlaw9_SetsOrder.j0 k l0 a1 a2 true) else (caravanlaw9_SetsOrder.j0 k l0 a1 a2 (decide ((a1.size : Int) > 200)))) = some r := H
   have A6 := Aside0.mk A60
   clear A60
   by_cases c7 : t220 = true
   ·subst c7
    have H1 : (caravanlaw9_SetsOrder.j0 k l0 a1 a2 true) = some r := by rw [if_pos rfl] at H; exact H
    clear H
    have H := H1
    clear H1
    have H' := Aside0.mk H
    clear H
    go_wp2_with (first | (go_at_call 13; (with_reducible refine (caravanlaw9_great.calls k _ _ l0 true _ ?side1 ?side2 A6.out).mono ?_); (case side1 => exact qC_ ((Kd.C_below HR0.out HB.out))); (case side2 => exact HC0.out); rintro e w' ⟨rfl, ⟨nd, rfl⟩⟩))
    go_meet
    case rel => exact ⟨_, (true), (by first | rfl | (simp; done) | (simp [*]; done)), H', ⟨by first | omega | exact Nat.le_refl _⟩, ⟨(qdb35_ HB.out)⟩⟩
   ·replace c7 := Bool.eq_false_iff.mpr c7
    subst c7
    have H1 : (caravanlaw9_SetsOrder.j0 k l0 a1 a2 (decide ((a1.size : Int) > 200))) = some r := by rw [if_neg (show ¬ (false = true) by decide)] at H; exact H
    clear H
    have H := H1
    clear H1
    have H' := Aside0.mk H
    clear H
    go_wp2_with (first | (go_at_call 13; (with_reducible refine (caravanlaw9_great.calls k _ _ l0 false _ ?side1 ?side2 A6.out).mono ?_); (case side1 => exact qC_ ((Kd.C_below HR0.out HB.out))); (case side2 => exact HC0.out); rintro e w' ⟨rfl, ⟨nd, rfl⟩⟩))
    go_meet
    case rel => exact ⟨_, (decide ((a1.size : Int) > 200)), (by first | rfl | (simp; done) | (simp [*]; done)), H', ⟨by first | omega | exact Nat.le_refl _⟩, ⟨(qdb35_ HB.out)⟩⟩
 case rest =>
  clear HC4
  try clear p2
  try clear c4
  try clear c5
  try clear c5b0
  try clear c5b1
  try clear c5b2
  try clear c7
  obtain ⟨kq, x25_3, rfl, HA, HJ3, HB⟩ := hcut
  cases kq with
  | zero => exact absurd HA.out (by simp [caravanlaw9_SetsOrder.j0])
  | succ kj3 =>
   have H := HA.out
   clear HA
   simp only [caravanlaw9_SetsOrder.j0] at H
   by_cases c8 : x25_3 = true
   ·subst c8
    have H1 : ((caravanlaw9_awake.f).bind fun t221 => (some t221)) = some r := by rw [if_pos rfl] at H; exact H
    clear H
    have H := H1
    clear H1
    replace H := Option.bind_eq_some_iff.mp H
    obtain ⟨t221, A90, H⟩ := H
    replace H : (some t221) = some r := H
    have A9 := Aside0.mk A90
    clear A90
    obtain rfl := Option.some.inj H
    go_wp2_with (first | ((with_reducible refine gate_callee (f := 7) rfl ?_); refine goesL_ (some 26) rfl rfl Try.func7 (by kernel_rfl) rfl #[] rfl qM_ ?_; (with_reducible refine (caravanlaw9_awake.calls  t221 _ A9.out).mono ?_); rintro e w10 ⟨rfl, hb⟩; refine ⟨_, rfl, ?_⟩; have n0_ := Aside0.mk (below_step (qdb35_ HB.out) hb); clear HB; have HB := n0_; clear n0_; (try clear hb); (try clear hb2); (try clear hk); (try clear hi)))
    go_ret
    exact ⟨by first | rfl | (simp [errW_none, errW_some] <;> rfl) | (simp [*, errW_none, errW_some] <;> rfl), (qdb35_ HB.out)⟩
   ·replace c8 := Bool.eq_false_iff.mpr c8
    subst c8
    have H1 : (if (l0.length : Int) = 0 then (none) else ((some (([] : List ByteArray) : List ByteArray)).bind fun y222 => (if 0 ≤ (Int.tmod (wrap64 (a2)) (l0.length : Int)) then (if (Int.tmod (wrap64 (a2)) (l0.length : Int)) ≤ (l0.length : Int) then (if y222.length + (l0.drop ((Int.tmod (wrap64 (a2)) (l0.length : Int)) : Int).toNat).length < 8796093022208 then ((some (y222 ++ (l0.drop ((Int.tmod (wrap64 (a2)) (l0.length : Int)) : Int).toNat) : List ByteArray)).bind fun y226 => (if y226.length + (l0.take ((Int.tmod (wrap64 (a2)) (l0.length : Int)) : Int).toNat).length < 8796093022208 then ((some (y226 ++ (l0.take ((Int.tmod (wrap64 (a2)) (l0.length : Int)) : Int).toNat) : List ByteArray)).bind fun y230 => (if (Int.tmod (wrap64 (a2)) (l0.length : Int)) < (l0.length : Int) then ((some (([rdOf ByteArray.empty l0 (Int.tmod (wrap64 (a2)) (l0.length : Int))] : List ByteArray) : List ByteArray)).bind fun y234 => (if y230.length + y234.length < 8796093022208 then ((sets_Of.f l0).bind fun t240 => ((sets_Of.f (y230 ++ y234)).bind fun t243 => (caravanlaw9_SetsOrder.l0 kj3 l0 a1 t240 t243 false 0))) else (none))) else (none))) else (none))) else (none)) else (none)) else (none)))) = some r := by rw [if_neg (show ¬ (false = true) by decide)] at H; exact H
    clear H
    have H := H1
    clear H1
    by_cases c11 : (l0.length : Int) = 0
    ·rw [if_pos c11] at H
     exact absurd H (by simp)
    ·rw [if_neg c11] at H
     have c11b0 : ((l0.length : Int) == 0) = false := beq_eq_false_iff_ne.mpr c11
     have c11b1 : ((l0.length : Int) != 0) = true := bne_iff_ne.mpr c11
     have c11b2 : ¬ (l0 = []) := fun h_ => c11 (by rw [h_]; rfl)
     obtain ⟨y222, hy222⟩ : ∃ y_ : List ByteArray, y_ = (([] : List ByteArray)) := ⟨_, rfl⟩
     replace H : (if 0 ≤ (Int.tmod (wrap64 (a2)) (l0.length : Int)) then (if (Int.tmod (wrap64 (a2)) (l0.length : Int)) ≤ (l0.length : Int) then (if y222.length + (l0.drop ((Int.tmod (wrap64 (a2)) (l0.length : Int)) : Int).toNat).length < 8796093022208 then ((some (y222 ++ (l0.drop ((Int.tmod (wrap64 (a2)) (l0.length : Int)) : Int).toNat) : List ByteArray)).bind fun y226 => (if y226.length + (l0.take ((Int.tmod (wrap64 (a2)) (l0.length : Int)) : Int).toNat).length < 8796093022208 then ((some (y226 ++ (l0.take ((Int.tmod (wrap64 (a2)) (l0.length : Int)) : Int).toNat) : List ByteArray)).bind fun y230 => (if (Int.tmod (wrap64 (a2)) (l0.length : Int)) < (l0.length : Int) then ((some (([rdOf ByteArray.empty l0 (Int.tmod (wrap64 (a2)) (l0.length : Int))] : List ByteArray) : List ByteArray)).bind fun y234 => (if y230.length + y234.length < 8796093022208 then ((sets_Of.f l0).bind fun t240 => ((sets_Of.f (y230 ++ y234)).bind fun t243 => (caravanlaw9_SetsOrder.l0 kj3 l0 a1 t240 t243 false 0))) else (none))) else (none))) else (none))) else (none)) else (none)) else (none)) = some r := by first | (rw [hy222]; with_reducible exact H) | (have H2_ := (Option.bind_some _ _).symm.trans H; rw [hy222]; with_reducible exact H2_) | (have H2_ := (Option.bind_some _ _).symm.trans H; with_reducible exact H2_) | with_reducible exact H | (rw [hy222]; exact H) | exact H
     have Ny222 := Aside0.mk hy222
     clear hy222
     obtain ⟨ji12, hji12⟩ : ∃ j_ : Int, (Int.tmod (wrap64 (a2)) (l0.length : Int)) = j_ := ⟨_, rfl⟩
     replace H : (if 0 ≤ (ji12) then (if (ji12) ≤ (l0.length : Int) then (if y222.length + (l0.drop ((ji12) : Int).toNat).length < 8796093022208 then ((some (y222 ++ (l0.drop ((ji12) : Int).toNat) : List ByteArray)).bind fun y226 => (if y226.length + (l0.take ((ji12) : Int).toNat).length < 8796093022208 then ((some (y226 ++ (l0.take ((ji12) : Int).toNat) : List ByteArray)).bind fun y230 => (if (ji12) < (l0.length : Int) then ((some (([rdOf ByteArray.empty l0 (ji12)] : List ByteArray) : List ByteArray)).bind fun y234 => (if y230.length + y234.length < 8796093022208 then ((sets_Of.f l0).bind fun t240 => ((sets_Of.f (y230 ++ y234)).bind fun t243 => (caravanlaw9_SetsOrder.l0 kj3 l0 a1 t240 t243 false 0))) else (none))) else (none))) else (none))) else (none)) else (none)) else (none)) = some r := by first | (rw [hji12] at H; exact H) | (simp only [hji12] at H ⊢; exact H)
     by_cases c13 : 0 ≤ (ji12)
     ·rw [if_pos c13] at H
      have c13b0 := eq_true c13
      have c13b1 : decide (0 ≤ (ji12)) = true := decide_eq_true c13
      clear c13
      by_cases c14 : (ji12) ≤ (l0.length : Int)
      ·rw [if_pos c14] at H
       have c14b0 := eq_true c14
       have c14b1 : decide ((ji12) ≤ (l0.length : Int)) = true := decide_eq_true c14
       clear c14
       by_cases c15 : y222.length + (l0.drop ((ji12) : Int).toNat).length < 8796093022208
       ·rw [if_pos c15] at H
        have LMc15 := Aside0.mk c15
        clear c15
        obtain ⟨y226, hy226⟩ : ∃ y_ : List ByteArray, y_ = (y222 ++ (l0.drop ((ji12) : Int).toNat)) := ⟨_, rfl⟩
        replace H : (if y226.length + (l0.take ((ji12) : Int).toNat).length < 8796093022208 then ((some (y226 ++ (l0.take ((ji12) : Int).toNat) : List ByteArray)).bind fun y230 => (if (ji12) < (l0.length : Int) then ((some (([rdOf ByteArray.empty l0 (ji12)] : List ByteArray) : List ByteArray)).bind fun y234 => (if y230.length + y234.length < 8796093022208 then ((sets_Of.f l0).bind fun t240 => ((sets_Of.f (y230 ++ y234)).bind fun t243 => (caravanlaw9_SetsOrder.l0 kj3 l0 a1 t240 t243 false 0))) else (none))) else (none))) else (none)) = some r := by first | (rw [hy226]; with_reducible exact H) | (have H2_ := (Option.bind_some _ _).symm.trans H; rw [hy226]; with_reducible exact H2_) | (have H2_ := (Option.bind_some _ _).symm.trans H; with_reducible exact H2_) | with_reducible exact H | (rw [hy226]; exact H) | exact H
        have Ny226 := Aside0.mk hy226
        clear hy226
        have c16b0 := eq_true (of_decide_eq_true (by first | (with_reducible assumption) | assumption) : 0 ≤ (ji12))
        have c17b0 := eq_true (of_decide_eq_true (by first | (with_reducible assumption) | assumption) : (ji12) ≤ (l0.length : Int))
        by_cases c18 : y226.length + (l0.take ((ji12) : Int).toNat).length < 8796093022208
        ·rw [if_pos c18] at H
         have LMc18 := Aside0.mk c18
         clear c18
         obtain ⟨y230, hy230⟩ : ∃ y_ : List ByteArray, y_ = (y226 ++ (l0.take ((ji12) : Int).toNat)) := ⟨_, rfl⟩
         replace H : (if (ji12) < (l0.length : Int) then ((some (([rdOf ByteArray.empty l0 (ji12)] : List ByteArray) : List ByteArray)).bind fun y234 => (if y230.length + y234.length < 8796093022208 then ((sets_Of.f l0).bind fun t240 => ((sets_Of.f (y230 ++ y234)).bind fun t243 => (caravanlaw9_SetsOrder.l0 kj3 l0 a1 t240 t243 false 0))) else (none))) else (none)) = some r := by first | (rw [hy230]; with_reducible exact H) | (have H2_ := (Option.bind_some _ _).symm.trans H; rw [hy230]; with_reducible exact H2_) | (have H2_ := (Option.bind_some _ _).symm.trans H; with_reducible exact H2_) | with_reducible exact H | (rw [hy230]; exact H) | exact H
         have Ny230 := Aside0.mk hy230
         clear hy230
         by_cases c19 : (ji12) < (l0.length : Int)
         ·rw [if_pos c19] at H
          have c19b0 : decide ((ji12) < (l0.length : Int)) = true := decide_eq_true c19
          clear c19
          obtain ⟨y234, hy234⟩ : ∃ y_ : List ByteArray, y_ = (([rdOf ByteArray.empty l0 (ji12)] : List ByteArray)) := ⟨_, rfl⟩
          replace H : (if y230.length + y234.length < 8796093022208 then ((sets_Of.f l0).bind fun t240 => ((sets_Of.f (y230 ++ y234)).bind fun t243 => (caravanlaw9_SetsOrder.l0 kj3 l0 a1 t240 t243 false 0))) else (none)) = some r := by first | (rw [hy234]; with_reducible exact H) | (have H2_ := (Option.bind_some _ _).symm.trans H; rw [hy234]; with_reducible exact H2_) | (have H2_ := (Option.bind_some _ _).symm.trans H; with_reducible exact H2_) | with_reducible exact H | (rw [hy234]; exact H) | exact H
          have Ny234 := Aside0.mk hy234
          clear hy234
          by_cases c20 : y230.length + y234.length < 8796093022208
          ·rw [if_pos c20] at H
           have LMc20 := Aside0.mk c20
           clear c20
           obtain ⟨y237, hy237⟩ : ∃ y_ : List ByteArray, y_ = (y230 ++ y234) := ⟨_, rfl⟩
           replace H : ((sets_Of.f l0).bind fun t240 => ((sets_Of.f y237).bind fun t243 => (caravanlaw9_SetsOrder.l0 kj3 l0 a1 t240 t243 false 0))) = some r := by first | (rw [hy237]; with_reducible exact H) | (have H2_ := (Option.bind_some _ _).symm.trans H; rw [hy237]; with_reducible exact H2_) | (have H2_ := (Option.bind_some _ _).symm.trans H; with_reducible exact H2_) | with_reducible exact H | (rw [hy237]; exact H) | exact H
           have Ny237 := Aside0.mk hy237
           clear hy237
           replace H := Option.bind_eq_some_iff.mp H
           obtain ⟨t240, A210, H⟩ := H
           replace H : ((sets_Of.f y237).bind fun t243 => (caravanlaw9_SetsOrder.l0 kj3 l0 a1 t240 t243 false 0)) = some r := H
           have A21 := Aside0.mk A210
           clear A210
           replace H := Option.bind_eq_some_iff.mp H
           obtain ⟨t243, A220, H⟩ := H
           replace H : (caravanlaw9_SetsOrder.l0 kj3 l0 a1 t240 t243 false 0) = some r := H
           have A22 := Aside0.mk A220
           clear A220
           have H' := Aside0.mk H
           clear H
           try go_wp2
           have n0_ := Aside0.mk (below_drew1 HB.out)
           clear HB
           have HB := n0_
           clear n0_
           obtain ⟨i024, hi024, _, hsz24, _⟩ := info_parts info9
           obtain ⟨A24, hcut24, hA24, hC24⟩ := print_drop_of (P := Try.prog) Value.string (⟨#[]⟩ : ByteArray) 24 9 .i64 Try.underlying24 hi024 hsz24 A0 c0 l0 (ji12) (of_decide_eq_true (by first | (with_reducible assumption) | assumption)) (of_decide_eq_true (by first | (with_reducible assumption) | assumption)) HC0.out
           have HR225 := Aside0.mk (Kd.C_of_reads (h1 := fun _ => rfl) (hA24 _ (Kd.reads_of_C HR0.out)))
           have HC225 := Aside0.mk hC24
           clear hA24 hC24 hi024 hsz24
           obtain ⟨i025, hi025, _, hsz25, _⟩ := info_parts info9
           obtain ⟨hcut25, hA25, hC25⟩ := print_take_of (P := Try.prog) Value.string (⟨#[]⟩ : ByteArray) 24 9 .i64 Try.underlying24 hi025 hsz25 A0 c0 l0 (ji12) (of_decide_eq_true (by first | (with_reducible assumption) | assumption)) (of_decide_eq_true (by first | (with_reducible assumption) | assumption)) HC0.out
           have HR229 := Aside0.mk (Kd.C_of_reads (h1 := fun _ => rfl) (hA25 _ (Kd.reads_of_C HR0.out)))
           have HC229 := Aside0.mk hC25
           clear hA25 hC25 hi025 hsz25
           have p233 : 0 ≤ ((ji12) : Int) := of_decide_eq_true (by first | (with_reducible assumption) | assumption)
           have q233 : (ji12) < (l0.length : Int) := of_decide_eq_true (by first | (with_reducible assumption) | assumption)
           obtain ⟨ad233, e233, hx233_0⟩ := Kd.at_string HR0.out (ji12) p233 q233
           have hw233_0 := hx233_0
           cases e233
           replace hx233_0 := (HB.out.cell (World.block_lt_of_cell? w _ hx233_0)).trans hx233_0
           replace p233 := eq_true p233
           replace q233 := eq_true q233
           refine start_ (n := 16) (S := fun w' => w'.cell? (ad233.add ((ji12)).toNat) = some (.string (rdOf ByteArray.empty l0 (ji12)))) (ds := []) (ml_ 16 0) (by kernel_rfl) rfl rfl (((HB.out.cell (World.block_lt_of_cell? w _ hw233_0)).trans hw233_0)) (fun hHeld => ?_); refine with_tabW caravanlaw9_SetsOrder.tab4 caravanlaw9_SetsOrder.bits4 (fun HT_ HW_ => ?_)
           generalize wc.drew = w23 at HB HR225 HR229 hx233_0 hHeld ⊢
           refine pA_ 1 33 (ml_ 16 2) rfl rfl HT_.out ?_
           refine pA_ 2 34 (ml_ 16 6) rfl rfl HT_.out ?_
           refine pA_ 3 35 (ml_ 16 14) rfl rfl HT_.out ?_
           refine pA_ 5 37 (ml_ 16 46) rfl rfl HT_.out ?_
           refine pA_ 6 38 (ml_ 16 110) rfl rfl HT_.out ?_
           refine pA_ 7 39 (ml_ 16 238) rfl rfl HT_.out ?_
           refine pA_ 9 41 (ml_ 16 750) rfl rfl HT_.out ?_
           refine pA_ 10 42 (ml_ 16 1774) rfl rfl HT_.out ?_
           refine pA_ 11 43 (ml_ 16 3822) rfl rfl HT_.out ?_
           refine take_ (i := 12) (N := some 44) (v := ?_) (a' := ?_) (ml_ 16 7918) rfl rfl (take_ofW HT_.out HW_.out (by kernel_rfl)) (fun _ _ _ h => h) (Or.inl ⟨by rfl, ?_⟩) hHeld ?_ ?_
           rotate_left
           ·intro w' s0
            go_simp
            with_reducible rfl
           rotate_left
           ·simp only [Act.put, List.setIfInBounds_toArray, List.set_cons_zero, List.set_cons_succ, i64_w, i32_w]
            rfl
           refine join_ (σ := Value × Value × Value × Value) 2 (ml_ 16 16383) (fun s_ => [(32, s_.1), (36, s_.2.1), (40, s_.2.2.1), (45, s_.2.2.2)]) (fun s_ w' => (w'.cell? (ad233.add ((ji12)).toNat) = some (.string (rdOf ByteArray.empty l0 (ji12)))) ∧ (Kd.R Kd.string 9 w' w.heap.size (fun k_ => some k_ ≠ (s_.2.2.2 : Value).ownBlock) s_.2.2.1 y230) ∧ (Kd.R Kd.string 9 w' w.heap.size (fun k_ => some k_ ≠ (s_.2.2.1 : Value).ownBlock) s_.2.2.2 y234) ∧ (Below w.heap.size w w')) ?_ ?_
           rotate_left
           ·intro hCont
            refine two_ (i := 0) (j := 13) (Ni := some 32) (Nj := some 45) (ml_ 16 7919) (ml_ 16 16110) rfl rfl rfl rfl (two_of HT_.out (by kernel_rfl)) (by decide) (by decide) (fun K hK => ?_) (fun K hK => ?_)
            ·skip
             refine Kd.R_lit_step Kd.string _ 9 ?hg (N := 32) ?hd (xs := ([] : List ByteArray)) (inner := []) (ok := fun _ => True) (okp := fun _ => True) ?hr ?hp (fun _ hk => hk) trivial (Below.refl _ _) (Nat.le_refl _) (by simp) ?_; (case hd => rfl); (case hg => rfl); (case hr => first | (go_simp; done) | (go_simp; rfl)); (case hp => exact (Reps.none _ _))
             intro v223 w26 ho27 hb hg_ hnew_
             clear hg_ hnew_
             (first | rw [← Ny222.out] at ho27 | (simp only [Int.reduceToNat] at ho27; rw [← Ny222.out] at ho27))
             have n0_ := Aside0.mk (Kd.R_lower ho27 (below_size (qdb35_ HB.out)))
             have n1_ := Aside0.mk (below_step (qdb35_ HB.out) hb)
             clear HB
             have HO224 := n0_
             have HB := n1_
             clear n0_ n1_
             clear hb ho27
             refine hK.out _ _ (((HB.out.cell (World.block_lt_of_cell? w _ hw233_0)).trans hw233_0)) (fun hHeld => ?_)
             clear hK K
             refine nA_ 32 ?_
             refine two_ (i := 4) (j := 13) (Ni := some 36) (Nj := some 45) (ml_ 16 7935) (ml_ 16 16111) rfl rfl rfl rfl (two_of HT_.out (by kernel_rfl)) (by decide) (by decide) (fun K hK => ?_) (fun K hK => ?_)
             ·skip
              refine Kd.R_append_rows_step Kd.string (w0 := w) w.heap.size (by rfl) (.tmp 32) (.tmp 35) 24 9 (.string ⟨#[]⟩) 16 rfl Try.underlying24 info9 rfl (by decide) (by omega) v223 y222 (l0.drop ((ji12) : Int).toNat) _ _ _ (fun _ => True) (fun _ => False) rfl rfl ?aO ?aR (fun _ _ h => h) (fun _ h => h.elim) ?aF ?aB ?aS ?aL ?_
              (case aR => first | (refine cAt_ ?_ (show (l0.drop ((ji12) : Int).toNat).length = (l0.length - (ji12).toNat) from List.length_drop); repeat (first | exact (Kd.C_below HR225.out HB.out) | (with_reducible refine Kd.C_alloc ?_ _) | (with_reducible refine Kd.C_drewN ?_ _) | (with_reducible refine Kd.C_drew ?_))) | (repeat (first | exact (Kd.C_below HR225.out HB.out) | (with_reducible refine Kd.C_alloc ?_ _) | (with_reducible refine Kd.C_drewN ?_ _) | (with_reducible refine Kd.C_drew ?_))))
              (case aB => exact (qdb35_ HB.out))
              (case aF => exact (fun _ _ => trivial))
              (case aO => exact (q8524_ HO224.out))
              (case aS => exact (below_size (qdb35_ HB.out)))
              (case aL => have := LMc15.out; have hlx_ := (show (l0.drop ((ji12) : Int).toNat).length = (l0.length - (ji12).toNat) from List.length_drop); omega)
              intro v227 w28 ho hb hg hat
              rw [← Ny226.out] at ho
              have n0_ := Aside0.mk (hb)
              have n1_ := Aside0.mk (ho)
              clear HB
              clear HO224
              have HB := n0_
              have HO228 := n1_
              clear n0_ n1_
              clear ho hb hg hat
              refine hK.out _ _ (((HB.out.cell (World.block_lt_of_cell? w _ hw233_0)).trans hw233_0)) (fun hHeld => ?_)
              clear hK K
              refine nA_ 36 ?_
              refine two_ (i := 8) (j := 13) (Ni := some 40) (Nj := some 45) (ml_ 16 8191) (ml_ 16 16127) rfl rfl rfl rfl (two_of HT_.out (by kernel_rfl)) (by decide) (by decide) (fun K hK => ?_) (fun K hK => ?_)
              ·skip
               refine Kd.R_append_rows_step Kd.string (w0 := w) w.heap.size (by rfl) (.tmp 36) (.tmp 39) 24 9 (.string ⟨#[]⟩) 16 rfl Try.underlying24 info9 rfl (by decide) (by omega) v227 y226 (l0.take ((ji12) : Int).toNat) _ _ _ (fun _ => True) (fun _ => False) rfl rfl ?aO ?aR (fun _ _ h => h) (fun _ h => h.elim) ?aF ?aB ?aS ?aL ?_
               (case aR => first | (refine cAt_ ?_ (show (l0.take ((ji12) : Int).toNat).length = (ji12).toNat from (by rw [List.length_take]; have h_ : ((ji12) : Int) ≤ (l0.length : Int) := of_decide_eq_true (by first | (with_reducible assumption) | assumption); omega)); repeat (first | exact (Kd.C_below HR229.out HB.out) | (with_reducible refine Kd.C_alloc ?_ _) | (with_reducible refine Kd.C_drewN ?_ _) | (with_reducible refine Kd.C_drew ?_))) | (repeat (first | exact (Kd.C_below HR229.out HB.out) | (with_reducible refine Kd.C_alloc ?_ _) | (with_reducible refine Kd.C_drewN ?_ _) | (with_reducible refine Kd.C_drew ?_))))
               (case aB => exact (qdb35_ HB.out))
               (case aF => exact (fun _ _ => trivial))
               (case aO => exact (q8524_ HO228.out))
               (case aS => exact (below_size (qdb35_ HB.out)))
               (case aL => have := LMc18.out; have hlx_ := (show (l0.take ((ji12) : Int).toNat).length = (ji12).toNat from (by rw [List.length_take]; have h_ : ((ji12) : Int) ≤ (l0.length : Int) := of_decide_eq_true (by first | (with_reducible assumption) | assumption); omega)); omega)
               intro v231 w29 ho hb hg hat
               rw [← Ny230.out] at ho
               have n0_ := Aside0.mk (hb)
               have n1_ := Aside0.mk (ho)
               clear HB
               clear HO228
               have HB := n0_
               have HO232 := n1_
               clear n0_ n1_
               clear ho hb hg hat
               refine hK.out _ _ (((HB.out.cell (World.block_lt_of_cell? w _ hw233_0)).trans hw233_0)) (fun hHeld => ?_)
               clear hK K
               refine nA_ 40 ?_
               refine one_ (i := 13) (N := some 45) (ml_ 16 16383) rfl rfl (one_of HT_.out (by kernel_rfl)) (by decide) (fun K hK => ?_)
               refine Kd.R_lit_step Kd.string _ 9 ?hg (N := 45) ?hd (xs := ([rdOf ByteArray.empty l0 (ji12)] : List ByteArray)) (inner := [.string (rdOf ByteArray.empty l0 (ji12))]) (ok := fun _ => True) (okp := fun _ => True) ?hr ?hp (fun _ hk => hk) trivial (Below.refl _ _) (Nat.le_refl _) (by simp) ?_; (case hd => rfl); (case hg => rfl); (case hr => first | (go_simp; done) | (go_simp; rfl)); (case hp => exact (Reps.one (show Kd.M Kd.string _ _ _ (rdOf ByteArray.empty l0 (ji12)) [.string (rdOf ByteArray.empty l0 (ji12))] from rfl) (Reps.none _ _)))
               intro v235 w30 ho31 hb hg_ hnew_
               clear hg_ hnew_
               (first | rw [← Ny234.out] at ho31 | (simp only [Int.reduceToNat] at ho31; rw [← Ny234.out] at ho31))
               have n0_ := Aside0.mk (Kd.R_elder' (q8524_ HO232.out) (Kd.R_base ho31) hb)
               have n1_ := Aside0.mk (Kd.R_lower (Kd.R_new' ho31 (Kd.R_lt (q8524_ HO232.out))) (below_size (qdb35_ HB.out)))
               have n2_ := Aside0.mk (below_step (qdb35_ HB.out) hb)
               clear HO232
               clear HB
               have HO232 := n0_
               have HO236 := n1_
               have HB := n2_
               clear n0_ n1_ n2_
               clear hb ho31
               refine hK.out _ _ (((HB.out.cell (World.block_lt_of_cell? w _ hw233_0)).trans hw233_0)) (fun hHeld => ?_)
               clear hK K
               refine nA_ 45 ?_
               exact norm_ (by simp only [putAll, Act.put, List.setIfInBounds_toArray, List.set_cons_zero, List.set_cons_succ]) (hCont (v223, v227, v231, v235) _ ⟨hHeld, (qaa69_ HO232.out), (qaa69_ HO236.out), (qdb35_ HB.out)⟩)
              ·skip
               refine Kd.R_lit_step Kd.string _ 9 ?hg (N := 45) ?hd (xs := ([rdOf ByteArray.empty l0 (ji12)] : List ByteArray)) (inner := [.string (rdOf ByteArray.empty l0 (ji12))]) (ok := fun _ => True) (okp := fun _ => True) ?hr ?hp (fun _ hk => hk) trivial (Below.refl _ _) (Nat.le_refl _) (by simp) ?_; (case hd => rfl); (case hg => rfl); (case hr => first | (go_simp; done) | (go_simp; rfl)); (case hp => exact (Reps.one (show Kd.M Kd.string _ _ _ (rdOf ByteArray.empty l0 (ji12)) [.string (rdOf ByteArray.empty l0 (ji12))] from rfl) (Reps.none _ _)))
               intro v235 w29 ho30 hb hg_ hnew_
               clear hg_ hnew_
               (first | rw [← Ny234.out] at ho30 | (simp only [Int.reduceToNat] at ho30; rw [← Ny234.out] at ho30))
               have n0_ := Aside0.mk (Kd.R_elder' (q8524_ HO228.out) (Kd.R_base ho30) hb)
               have n1_ := Aside0.mk (Kd.R_lower (Kd.R_new' ho30 (Kd.R_lt (q8524_ HO228.out))) (below_size (qdb35_ HB.out)))
               have n2_ := Aside0.mk (below_step (qdb35_ HB.out) hb)
               clear HO228
               clear HB
               have HO228 := n0_
               have HO236 := n1_
               have HB := n2_
               clear n0_ n1_ n2_
               clear hb ho30
               refine hK.out _ _ (((HB.out.cell (World.block_lt_of_cell? w _ hw233_0)).trans hw233_0)) (fun hHeld => ?_)
               clear hK K
               refine nA_ 45 ?_
               refine one_ (i := 8) (N := some 40) (ml_ 16 16383) rfl rfl (one_of HT_.out (by kernel_rfl)) (by decide) (fun K hK => ?_)
               refine Kd.R_append_rows_step Kd.string (w0 := w) w.heap.size (by rfl) (.tmp 36) (.tmp 39) 24 9 (.string ⟨#[]⟩) 16 rfl Try.underlying24 info9 rfl (by decide) (by omega) v227 y226 (l0.take ((ji12) : Int).toNat) _ _ _ (fun k_ => some k_ ≠ (v235 : Value).ownBlock) (fun _ => False) rfl rfl ?aO ?aR (fun _ _ h => h) (fun _ h => h.elim) ?aF ?aB ?aS ?aL ?_
               (case aR => first | (refine cAt_ ?_ (show (l0.take ((ji12) : Int).toNat).length = (ji12).toNat from (by rw [List.length_take]; have h_ : ((ji12) : Int) ≤ (l0.length : Int) := of_decide_eq_true (by first | (with_reducible assumption) | assumption); omega)); repeat (first | exact (Kd.C_below HR229.out HB.out) | (with_reducible refine Kd.C_alloc ?_ _) | (with_reducible refine Kd.C_drewN ?_ _) | (with_reducible refine Kd.C_drew ?_))) | (repeat (first | exact (Kd.C_below HR229.out HB.out) | (with_reducible refine Kd.C_alloc ?_ _) | (with_reducible refine Kd.C_drewN ?_ _) | (with_reducible refine Kd.C_drew ?_))))
               (case aB => exact (qdb35_ HB.out))
               (case aF => exact (fun k_ hk => Kd.fresh' (Kd.R_lt (q8524_ HO236.out)) k_ hk))
               (case aO => exact (qaa69_ HO228.out))
               (case aS => exact (below_size (qdb35_ HB.out)))
               (case aL => have := LMc18.out; have hlx_ := (show (l0.take ((ji12) : Int).toNat).length = (ji12).toNat from (by rw [List.length_take]; have h_ : ((ji12) : Int) ≤ (l0.length : Int) := of_decide_eq_true (by first | (with_reducible assumption) | assumption); omega)); omega)
               intro v231 w31 ho hb hg hat
               rw [← Ny230.out] at ho
               have n0_ := Aside0.mk (Kd.R_after (ok := (fun _ => True)) (q8524_ HO236.out) hg hat)
               have n1_ := Aside0.mk (hb)
               have n2_ := Aside0.mk (ho)
               clear HO236
               clear HB
               clear HO228
               have HO236 := n0_
               have HB := n1_
               have HO232 := n2_
               clear n0_ n1_ n2_
               clear ho hb hg hat
               refine hK.out _ _ (((HB.out.cell (World.block_lt_of_cell? w _ hw233_0)).trans hw233_0)) (fun hHeld => ?_)
               clear hK K
               refine nA_ 40 ?_
               exact norm_ (by simp only [putAll, Act.put, List.setIfInBounds_toArray, List.set_cons_zero, List.set_cons_succ]) (hCont (v223, v227, v231, v235) _ ⟨hHeld, (q8524_ HO232.out), (qaa69_ HO236.out), (qdb35_ HB.out)⟩)
             ·skip
              refine Kd.R_lit_step Kd.string _ 9 ?hg (N := 45) ?hd (xs := ([rdOf ByteArray.empty l0 (ji12)] : List ByteArray)) (inner := [.string (rdOf ByteArray.empty l0 (ji12))]) (ok := fun _ => True) (okp := fun _ => True) ?hr ?hp (fun _ hk => hk) trivial (Below.refl _ _) (Nat.le_refl _) (by simp) ?_; (case hd => rfl); (case hg => rfl); (case hr => first | (go_simp; done) | (go_simp; rfl)); (case hp => exact (Reps.one (show Kd.M Kd.string _ _ _ (rdOf ByteArray.empty l0 (ji12)) [.string (rdOf ByteArray.empty l0 (ji12))] from rfl) (Reps.none _ _)))
              intro v235 w28 ho29 hb hg_ hnew_
              clear hg_ hnew_
              (first | rw [← Ny234.out] at ho29 | (simp only [Int.reduceToNat] at ho29; rw [← Ny234.out] at ho29))
              have n0_ := Aside0.mk (Kd.R_elder' (q8524_ HO224.out) (Kd.R_base ho29) hb)
              have n1_ := Aside0.mk (Kd.R_lower (Kd.R_new' ho29 (Kd.R_lt (q8524_ HO224.out))) (below_size (qdb35_ HB.out)))
              have n2_ := Aside0.mk (below_step (qdb35_ HB.out) hb)
              clear HO224
              clear HB
              have HO224 := n0_
              have HO236 := n1_
              have HB := n2_
              clear n0_ n1_ n2_
              clear hb ho29
              refine hK.out _ _ (((HB.out.cell (World.block_lt_of_cell? w _ hw233_0)).trans hw233_0)) (fun hHeld => ?_)
              clear hK K
              refine nA_ 45 ?_
              refine one_ (i := 4) (N := some 36) (ml_ 16 16127) rfl rfl (one_of HT_.out (by kernel_rfl)) (by decide) (fun K hK => ?_)
              refine Kd.R_append_rows_step Kd.string (w0 := w) w.heap.size (by rfl) (.tmp 32) (.tmp 35) 24 9 (.string ⟨#[]⟩) 16 rfl Try.underlying24 info9 rfl (by decide) (by omega) v223 y222 (l0.drop ((ji12) : Int).toNat) _ _ _ (fun k_ => some k_ ≠ (v235 : Value).ownBlock) (fun _ => False) rfl rfl ?aO ?aR (fun _ _ h => h) (fun _ h => h.elim) ?aF ?aB ?aS ?aL ?_
              (case aR => first | (refine cAt_ ?_ (show (l0.drop ((ji12) : Int).toNat).length = (l0.length - (ji12).toNat) from List.length_drop); repeat (first | exact (Kd.C_below HR225.out HB.out) | (with_reducible refine Kd.C_alloc ?_ _) | (with_reducible refine Kd.C_drewN ?_ _) | (with_reducible refine Kd.C_drew ?_))) | (repeat (first | exact (Kd.C_below HR225.out HB.out) | (with_reducible refine Kd.C_alloc ?_ _) | (with_reducible refine Kd.C_drewN ?_ _) | (with_reducible refine Kd.C_drew ?_))))
              (case aB => exact (qdb35_ HB.out))
              (case aF => exact (fun k_ hk => Kd.fresh' (Kd.R_lt (q8524_ HO236.out)) k_ hk))
              (case aO => exact (qaa69_ HO224.out))
              (case aS => exact (below_size (qdb35_ HB.out)))
              (case aL => have := LMc15.out; have hlx_ := (show (l0.drop ((ji12) : Int).toNat).length = (l0.length - (ji12).toNat) from List.length_drop); omega)
              intro v227 w30 ho hb hg hat
              rw [← Ny226.out] at ho
              have n0_ := Aside0.mk (Kd.R_after (ok := (fun _ => True)) (q8524_ HO236.out) hg hat)
              have n1_ := Aside0.mk (hb)
              have n2_ := Aside0.mk (ho)
              clear HO236
              clear HB
              clear HO224
              have HO236 := n0_
              have HB := n1_
              have HO228 := n2_
              clear n0_ n1_ n2_
              clear ho hb hg hat
              refine hK.out _ _ (((HB.out.cell (World.block_lt_of_cell? w _ hw233_0)).trans hw233_0)) (fun hHeld => ?_)
              clear hK K
              refine nA_ 36 ?_
              refine one_ (i := 8) (N := some 40) (ml_ 16 16383) rfl rfl (one_of HT_.out (by kernel_rfl)) (by decide) (fun K hK => ?_)
              refine Kd.R_append_rows_step Kd.string (w0 := w) w.heap.size (by rfl) (.tmp 36) (.tmp 39) 24 9 (.string ⟨#[]⟩) 16 rfl Try.underlying24 info9 rfl (by decide) (by omega) v227 y226 (l0.take ((ji12) : Int).toNat) _ _ _ (fun k_ => some k_ ≠ (v235 : Value).ownBlock) (fun _ => False) rfl rfl ?aO ?aR (fun _ _ h => h) (fun _ h => h.elim) ?aF ?aB ?aS ?aL ?_
              (case aR => first | (refine cAt_ ?_ (show (l0.take ((ji12) : Int).toNat).length = (ji12).toNat from (by rw [List.length_take]; have h_ : ((ji12) : Int) ≤ (l0.length : Int) := of_decide_eq_true (by first | (with_reducible assumption) | assumption); omega)); repeat (first | exact (Kd.C_below HR229.out HB.out) | (with_reducible refine Kd.C_alloc ?_ _) | (with_reducible refine Kd.C_drewN ?_ _) | (with_reducible refine Kd.C_drew ?_))) | (repeat (first | exact (Kd.C_below HR229.out HB.out) | (with_reducible refine Kd.C_alloc ?_ _) | (with_reducible refine Kd.C_drewN ?_ _) | (with_reducible refine Kd.C_drew ?_))))
              (case aB => exact (qdb35_ HB.out))
              (case aF => exact (fun k_ hk => Kd.fresh' (Kd.R_lt (q8524_ HO236.out)) k_ hk))
              (case aO => exact (q8524_ HO228.out))
              (case aS => exact (below_size (qdb35_ HB.out)))
              (case aL => have := LMc18.out; have hlx_ := (show (l0.take ((ji12) : Int).toNat).length = (ji12).toNat from (by rw [List.length_take]; have h_ : ((ji12) : Int) ≤ (l0.length : Int) := of_decide_eq_true (by first | (with_reducible assumption) | assumption); omega)); omega)
              intro v231 w31 ho hb hg hat
              rw [← Ny230.out] at ho
              have n0_ := Aside0.mk (Kd.R_after (ok := (fun _ => True)) (q8524_ HO236.out) hg hat)
              have n1_ := Aside0.mk (hb)
              have n2_ := Aside0.mk (ho)
              clear HO236
              clear HB
              clear HO228
              have HO236 := n0_
              have HB := n1_
              have HO232 := n2_
              clear n0_ n1_ n2_
              clear ho hb hg hat
              refine hK.out _ _ (((HB.out.cell (World.block_lt_of_cell? w _ hw233_0)).trans hw233_0)) (fun hHeld => ?_)
              clear hK K
              refine nA_ 40 ?_
              exact norm_ (by simp only [putAll, Act.put, List.setIfInBounds_toArray, List.set_cons_zero, List.set_cons_succ]) (hCont (v223, v227, v231, v235) _ ⟨hHeld, (q8524_ HO232.out), (qaa69_ HO236.out), (qdb35_ HB.out)⟩)
            ·skip
             refine Kd.R_lit_step Kd.string _ 9 ?hg (N := 45) ?hd (xs := ([rdOf ByteArray.empty l0 (ji12)] : List ByteArray)) (inner := [.string (rdOf ByteArray.empty l0 (ji12))]) (ok := fun _ => True) (okp := fun _ => True) ?hr ?hp (fun _ hk => hk) trivial (Below.refl _ _) (Nat.le_refl _) (by simp) ?_; (case hd => rfl); (case hg => rfl); (case hr => first | (go_simp; done) | (go_simp; rfl)); (case hp => exact (Reps.one (show Kd.M Kd.string _ _ _ (rdOf ByteArray.empty l0 (ji12)) [.string (rdOf ByteArray.empty l0 (ji12))] from rfl) (Reps.none _ _)))
             intro v235 w26 ho27 hb hg_ hnew_
             clear hg_ hnew_
             (first | rw [← Ny234.out] at ho27 | (simp only [Int.reduceToNat] at ho27; rw [← Ny234.out] at ho27))
             have n0_ := Aside0.mk (Kd.R_lower ho27 (below_size (qdb35_ HB.out)))
             have n1_ := Aside0.mk (below_step (qdb35_ HB.out) hb)
             clear HB
             have HO236 := n0_
             have HB := n1_
             clear n0_ n1_
             clear hb ho27
             refine hK.out _ _ (((HB.out.cell (World.block_lt_of_cell? w _ hw233_0)).trans hw233_0)) (fun hHeld => ?_)
             clear hK K
             refine nA_ 45 ?_
             refine one_ (i := 0) (N := some 32) (ml_ 16 16111) rfl rfl (one_of HT_.out (by kernel_rfl)) (by decide) (fun K hK => ?_)
             refine Kd.R_lit_step Kd.string _ 9 ?hg (N := 32) ?hd (xs := ([] : List ByteArray)) (inner := []) (ok := fun _ => True) (okp := fun _ => True) ?hr ?hp (fun _ hk => hk) trivial (Below.refl _ _) (Nat.le_refl _) (by simp) ?_; (case hd => rfl); (case hg => rfl); (case hr => first | (go_simp; done) | (go_simp; rfl)); (case hp => exact (Reps.none _ _))
             intro v223 w28 ho29 hb hg_ hnew_
             clear hg_ hnew_
             (first | rw [← Ny222.out] at ho29 | (simp only [Int.reduceToNat] at ho29; rw [← Ny222.out] at ho29))
             have n0_ := Aside0.mk (Kd.R_elder' (q8524_ HO236.out) (Kd.R_base ho29) hb)
             have n1_ := Aside0.mk (Kd.R_lower (Kd.R_new' ho29 (Kd.R_lt (q8524_ HO236.out))) (below_size (qdb35_ HB.out)))
             have n2_ := Aside0.mk (below_step (qdb35_ HB.out) hb)
             clear HO236
             clear HB
             have HO236 := n0_
             have HO224 := n1_
             have HB := n2_
             clear n0_ n1_ n2_
             clear hb ho29
             refine hK.out _ _ (((HB.out.cell (World.block_lt_of_cell? w _ hw233_0)).trans hw233_0)) (fun hHeld => ?_)
             clear hK K
             refine nA_ 32 ?_
             refine one_ (i := 4) (N := some 36) (ml_ 16 16127) rfl rfl (one_of HT_.out (by kernel_rfl)) (by decide) (fun K hK => ?_)
             refine Kd.R_append_rows_step Kd.string (w0 := w) w.heap.size (by rfl) (.tmp 32) (.tmp 35) 24 9 (.string ⟨#[]⟩) 16 rfl Try.underlying24 info9 rfl (by decide) (by omega) v223 y222 (l0.drop ((ji12) : Int).toNat) _ _ _ (fun k_ => some k_ ≠ (v235 : Value).ownBlock) (fun _ => False) rfl rfl ?aO ?aR (fun _ _ h => h) (fun _ h => h.elim) ?aF ?aB ?aS ?aL ?_
             (case aR => first | (refine cAt_ ?_ (show (l0.drop ((ji12) : Int).toNat).length = (l0.length - (ji12).toNat) from List.length_drop); repeat (first | exact (Kd.C_below HR225.out HB.out) | (with_reducible refine Kd.C_alloc ?_ _) | (with_reducible refine Kd.C_drewN ?_ _) | (with_reducible refine Kd.C_drew ?_))) | (repeat (first | exact (Kd.C_below HR225.out HB.out) | (with_reducible refine Kd.C_alloc ?_ _) | (with_reducible refine Kd.C_drewN ?_ _) | (with_reducible refine Kd.C_drew ?_))))
             (case aB => exact (qdb35_ HB.out))
             (case aF => exact (fun k_ hk => Kd.fresh' (Kd.R_lt (q8524_ HO236.out)) k_ hk))
             (case aO => exact (qaa69_ HO224.out))
             (case aS => exact (below_size (qdb35_ HB.out)))
             (case aL => have := LMc15.out; have hlx_ := (show (l0.drop ((ji12) : Int).toNat).length = (l0.length - (ji12).toNat) from List.length_drop); omega)
             intro v227 w30 ho hb hg hat
             rw [← Ny226.out] at ho
             have n0_ := Aside0.mk (Kd.R_after (ok := (fun _ => True)) (q8524_ HO236.out) hg hat)
             have n1_ := Aside0.mk (hb)
             have n2_ := Aside0.mk (ho)
             clear HO236
             clear HB
             clear HO224
             have HO236 := n0_
             have HB := n1_
             have HO228 := n2_
             clear n0_ n1_ n2_
             clear ho hb hg hat
             refine hK.out _ _ (((HB.out.cell (World.block_lt_of_cell? w _ hw233_0)).trans hw233_0)) (fun hHeld => ?_)
             clear hK K
             refine nA_ 36 ?_
             refine one_ (i := 8) (N := some 40) (ml_ 16 16383) rfl rfl (one_of HT_.out (by kernel_rfl)) (by decide) (fun K hK => ?_)
             refine Kd.R_append_rows_step Kd.string (w0 := w) w.heap.size (by rfl) (.tmp 36) (.tmp 39) 24 9 (.string ⟨#[]⟩) 16 rfl Try.underlying24 info9 rfl (by decide) (by omega) v227 y226 (l0.take ((ji12) : Int).toNat) _ _ _ (fun k_ => some k_ ≠ (v235 : Value).ownBlock) (fun _ => False) rfl rfl ?aO ?aR (fun _ _ h => h) (fun _ h => h.elim) ?aF ?aB ?aS ?aL ?_
             (case aR => first | (refine cAt_ ?_ (show (l0.take ((ji12) : Int).toNat).length = (ji12).toNat from (by rw [List.length_take]; have h_ : ((ji12) : Int) ≤ (l0.length : Int) := of_decide_eq_true (by first | (with_reducible assumption) | assumption); omega)); repeat (first | exact (Kd.C_below HR229.out HB.out) | (with_reducible refine Kd.C_alloc ?_ _) | (with_reducible refine Kd.C_drewN ?_ _) | (with_reducible refine Kd.C_drew ?_))) | (repeat (first | exact (Kd.C_below HR229.out HB.out) | (with_reducible refine Kd.C_alloc ?_ _) | (with_reducible refine Kd.C_drewN ?_ _) | (with_reducible refine Kd.C_drew ?_))))
             (case aB => exact (qdb35_ HB.out))
             (case aF => exact (fun k_ hk => Kd.fresh' (Kd.R_lt (q8524_ HO236.out)) k_ hk))
             (case aO => exact (q8524_ HO228.out))
             (case aS => exact (below_size (qdb35_ HB.out)))
             (case aL => have := LMc18.out; have hlx_ := (show (l0.take ((ji12) : Int).toNat).length = (ji12).toNat from (by rw [List.length_take]; have h_ : ((ji12) : Int) ≤ (l0.length : Int) := of_decide_eq_true (by first | (with_reducible assumption) | assumption); omega)); omega)
             intro v231 w31 ho hb hg hat
             rw [← Ny230.out] at ho
             have n0_ := Aside0.mk (Kd.R_after (ok := (fun _ => True)) (q8524_ HO236.out) hg hat)
             have n1_ := Aside0.mk (hb)
             have n2_ := Aside0.mk (ho)
             clear HO236
             clear HB
             clear HO228
             have HO236 := n0_
             have HB := n1_
             have HO232 := n2_
             clear n0_ n1_ n2_
             clear ho hb hg hat
             refine hK.out _ _ (((HB.out.cell (World.block_lt_of_cell? w _ hw233_0)).trans hw233_0)) (fun hHeld => ?_)
             clear hK K
             refine nA_ 40 ?_
             exact norm_ (by simp only [putAll, Act.put, List.setIfInBounds_toArray, List.set_cons_zero, List.set_cons_succ]) (hCont (v223, v227, v231, v235) _ ⟨hHeld, (q8524_ HO232.out), (qaa69_ HO236.out), (qdb35_ HB.out)⟩)
           rintro ⟨v223, v227, v231, v235⟩ w32 ⟨hS_, h0_, h1_, h2_⟩
           have n0_ : Aside0 (Kd.R Kd.string 9 w32 w.heap.size (fun k_ => some k_ ≠ (v235 : Value).ownBlock) v231 y230) := ⟨h0_⟩
           have n1_ : Aside0 (Kd.R Kd.string 9 w32 w.heap.size (fun k_ => some k_ ≠ (v231 : Value).ownBlock) v235 y234) := ⟨h1_⟩
           have n2_ : Aside0 (Below w.heap.size w w32) := ⟨h2_⟩
           clear HB
           clear h0_ h1_ h2_
           have HO232 := n0_
           have HO236 := n1_
           have HB := n2_
           clear n0_ n1_ n2_
           have hHeld : w32.cell? (ad233.add ((ji12)).toNat) = some (.string (rdOf ByteArray.empty l0 (ji12))) := hS_
           obtain ⟨Ao34, co34, eo34⟩ := Kd.R_slice HO236.out
           (first | subst eo34 | (injection eo34 with f1_ f2_ f3_; have f4_ := f1_.symm; have f5_ := f3_.symm; clear f1_ f2_ f3_; subst f4_; subst f5_))
           refine norm_ (a' := ?_) ?_ ?_
           rotate_left
           ·simp only [putAll, Act.put, List.setIfInBounds_toArray, List.set_cons_zero, List.set_cons_succ]
            rfl
           refine one_ (i := 14) (N := some 46) (ml_ 16 32767) rfl rfl (one_of HT_.out (by kernel_rfl)) (by decide) (fun K hK => ?_)
           refine Kd.R_append_rows_step Kd.string (w0 := w) w.heap.size (by rfl) (.tmp 40) (.tmp 45) 24 9 (.string ⟨#[]⟩) 16 rfl Try.underlying24 info9 rfl (by decide) (by omega) v231 y230 y234 _ _ _ (fun k_ => some k_ ≠ (.slice Ao34 y234.length co34 : Value).ownBlock) (fun _ => False) rfl rfl ?aO ?aR (fun _ _ h => h) (fun _ h => h.elim) ?aF ?aB ?aS ?aL ?_
           (case aR => repeat (first | exact (Kd.R_reads' HO236.out).2.2 | (with_reducible refine Kd.C_alloc ?_ _) | (with_reducible refine Kd.C_drewN ?_ _) | (with_reducible refine Kd.C_drew ?_)))
           (case aB => exact (qdb35_ HB.out))
           (case aF => exact (fun k_ hk => Kd.fresh' (Kd.R_lt (q8524_ HO236.out)) k_ hk))
           (case aO => exact (q8524_ HO232.out))
           (case aS => exact (below_size (qdb35_ HB.out)))
           (case aL => have := LMc20.out; omega)
           intro v238 w33 ho hb hg hat
           rw [← Ny237.out] at ho
           have n0_ := Aside0.mk (Kd.R_after (ok := (fun _ => True)) (by (with_reducible repeat (first | apply Kd.R_alloc | apply Kd.R_drewN | apply Kd.R_drew)); exact Kd.R_mono HO236.out (fun _ hk => ⟨trivial, hk⟩)) hg hat)
           have n1_ := Aside0.mk (hb)
           have n2_ := Aside0.mk (ho)
           clear HO236
           clear HB
           clear HO232
           have HO236 := n0_
           have HB := n1_
           have HO239 := n2_
           clear n0_ n1_ n2_
           clear ho hb hg hat
           refine hK.out _ _ (((HB.out.cell (World.block_lt_of_cell? w _ hw233_0)).trans hw233_0)) (fun hHeld => ?_)
           clear hK K
           refine nA_ 46 ?_
           refine pA_ 15 8 (ml_ 16 65535) rfl rfl HT_.out ?_
           refine done_ (done_of HT_.out (by kernel_rfl)) ?_
           try go_wp2_with (first | ((with_reducible refine gate_callee (f := 14) rfl ?_); refine goesL_ (some 48) rfl rfl Try.func14 (by kernel_rfl) rfl #[.slice (some ad233) l0.length c0] rfl qM_ ?_; (with_reducible refine (sets_Of.calls _ _ l0 t240 _ ?side1 ?side2 A21.out).mono ?_); (case side1 => exact qC_ ((Kd.C_below HR0.out HB.out))); (case side2 => exact HC0.out); rintro e w35 ⟨v241, rfl, ho0, hb⟩; refine ⟨_, rfl, ?_⟩; have n0_ := Aside0.mk (Kd.R_below (q8524_ HO236.out) hb); have n1_ := Aside0.mk (Kd.R_below (q8524_ HO239.out) hb); have n2_ := Aside0.mk (Kd.V_lower (Kd.V_mono (ok' := fun k_ => some k_ ≠ (.slice Ao34 y234.length co34 : Value).ownBlock ∧ some k_ ≠ (v238 : Value).ownBlock) ho0 (fun k_ hk_ => ⟨(Kd.fresh' (Kd.R_lt (q8524_ HO236.out)) k_ hk_), (Kd.fresh' (Kd.R_lt (q8524_ HO239.out)) k_ hk_)⟩)) (below_size (qdb35_ HB.out))); have n3_ := Aside0.mk (below_step (qdb35_ HB.out) hb); clear HO236; clear HO239; clear HB; have HO236 := n0_; have HO239 := n1_; have HO242 := n2_; have HB := n3_; clear n0_ n1_ n2_ n3_; (try clear hb); (try clear hb2); (try clear hk); (try clear hi); (try clear ho0); obtain ⟨Ao36, co36, eo36⟩ := Kd.R_slice HO239.out; subst eo36) | ((with_reducible refine gate_callee (f := 14) rfl ?_); refine goesL_ (some 50) rfl rfl Try.func14 (by kernel_rfl) rfl #[.slice Ao36 y237.length co36] rfl qM_ ?_; (with_reducible refine (sets_Of.calls _ _ y237 t243 _ ?side1 ?side2 A22.out).mono ?_); (case side1 => exact qC_ ((Kd.R_reads' HO239.out).2.2)); (case side2 => exact (Kd.R_reads' HO239.out).2.1); rintro e w37 ⟨v244, rfl, ho0, hb⟩; refine ⟨_, rfl, ?_⟩; have n0_ := Aside0.mk (Kd.R_below (q8524_ HO236.out) hb); have n1_ := Aside0.mk (Kd.R_below (q8524_ HO239.out) hb); have n2_ := Aside0.mk (Kd.V_below (q4d18_ HO242.out) hb); have n3_ := Aside0.mk (Kd.V_lower (Kd.V_mono (ok' := fun k_ => some k_ ≠ (.slice Ao34 y234.length co34 : Value).ownBlock ∧ some k_ ≠ (.slice Ao36 y237.length co36 : Value).ownBlock) ho0 (fun k_ hk_ => ⟨(Kd.fresh' (Kd.R_lt (q8524_ HO236.out)) k_ hk_), (Kd.fresh' (Kd.R_lt (q8524_ HO239.out)) k_ hk_)⟩)) (below_size (qdb35_ HB.out))); have n4_ := Aside0.mk (below_step (qdb35_ HB.out) hb); clear HO236; clear HO239; clear HO242; clear HB; have HO236 := n0_; have HO239 := n1_; have HO242 := n2_; have HO245 := n3_; have HB := n4_; clear n0_ n1_ n2_ n3_ n4_; (try clear hb); (try clear hb2); (try clear hk); (try clear hi); (try clear ho0)))
           go_loopg [11, 12] kj3 (fun kq v11 v12 w' => ∃ (x11_2 : Bool) (x12_2 : Int), v11 = .bool x11_2 ∧ v12 = .int .i64 x12_2 ∧ Aside0 (caravanlaw9_SetsOrder.l0 kq l0 a1 t240 t243 x11_2 x12_2 = some r) ∧ Aside0 (kq ≤ kj3) ∧ Aside0 (Kd.V Kd.string 9 w' w.heap.size (fun _ => True) v241 t240) ∧ Aside0 (Kd.V Kd.string 9 w' w.heap.size (fun _ => True) v244 t243) ∧ Aside0 (Below w.heap.size w w'))
           case atStart => exact ⟨(false), (0), (by first | rfl | (simp; done) | (simp [*]; done)), (by first | rfl | (simp; done) | (simp [*]; done)), H', ⟨Nat.le_refl _⟩, ⟨by (with_reducible repeat (first | apply Kd.V_alloc | apply Kd.V_drewN | apply Kd.V_drew)); exact Kd.V_mono HO242.out (fun _ hk => trivial)⟩, ⟨by (with_reducible repeat (first | apply Kd.V_alloc | apply Kd.V_drewN | apply Kd.V_drew)); exact Kd.V_mono HO245.out (fun _ hk => trivial)⟩, ⟨(qdb35_ HB.out)⟩⟩
           case round =>
            clear H'
            try clear c1
            try clear c2
            try clear p2
            try clear q2
            try clear hx2
            try clear c4
            try clear c5
            try clear c5b0
            try clear c5b1
            try clear c5b2
            try clear p6
            try clear c7
            try clear c8
            try clear c11
            try clear c11b0
            try clear c11b1
            try clear c11b2
            try clear c13
            try clear c13b0
            try clear c13b1
            try clear c14
            try clear c14b0
            try clear c14b1
            try clear c15
            try clear c16
            try clear c16b0
            try clear c17
            try clear c17b0
            try clear c18
            try clear c19
            try clear c19b0
            try clear c20
            try clear p23
            try clear q23
            try clear hx23
            try clear hx233_0
            try clear p2
            try clear p233
            try clear q233
            obtain ⟨x11_2, x12_2, rfl, rfl, HA, HK2, HO_9, HO_10, HB⟩ := hrel
            cases gk with
            | zero => exact absurd HA.out (by simp [caravanlaw9_SetsOrder.l0])
            | succ k2 =>
             have H := HA.out
             clear HA
             simp only [caravanlaw9_SetsOrder.l0] at H
             by_cases c38 : x12_2 < (l0.length : Int)
             ·rw [if_pos c38] at H
              have c38b0 : decide (x12_2 < (l0.length : Int)) = true := decide_eq_true c38
              clear c38
              by_cases c39 : x11_2 = true
              ·subst c39
               have H1 : (if 0 ≤ x12_2 then ((sets_Has.f k2 t240 (rdOf ByteArray.empty l0 x12_2)).bind fun t247 => (if t247 = true then (caravanlaw9_SetsOrder.l0 k2 l0 a1 t240 t243 true (wrap64 (x12_2 + 1))) else (some false))) else (none)) = some r := by rw [if_pos rfl] at H; exact H
               clear H
               have H := H1
               clear H1
               by_cases c40 : 0 ≤ x12_2
               ·rw [if_pos c40] at H
                have c40b0 : decide (0 ≤ x12_2) = true := decide_eq_true c40
                clear c40
                replace H := Option.bind_eq_some_iff.mp H
                obtain ⟨t247, A410, H⟩ := H
                replace H : (if t247 = true then (caravanlaw9_SetsOrder.l0 k2 l0 a1 t240 t243 true (wrap64 (x12_2 + 1))) else (some false)) = some r := H
                have A41 := Aside0.mk A410
                clear A410
                by_cases c42 : t247 = true
                ·subst c42
                 have H1 : (caravanlaw9_SetsOrder.l0 k2 l0 a1 t240 t243 true (wrap64 (x12_2 + 1))) = some r := by rw [if_pos rfl] at H; exact H
                 clear H
                 have H := H1
                 clear H1
                 have H' := Aside0.mk H
                 clear H
                 have p246 : 0 ≤ (x12_2 : Int) := of_decide_eq_true (by first | (with_reducible assumption) | assumption)
                 have q246 : x12_2 < (l0.length : Int) := of_decide_eq_true (by first | (with_reducible assumption) | assumption)
                 obtain ⟨ad246, e246, hx246_0⟩ := Kd.at_string HR0.out x12_2 p246 q246
                 obtain rfl : ad233 = ad246 := (by injection e246)
                 replace hx246_0 := (HB.out.cell (World.block_lt_of_cell? w _ hx246_0)).trans hx246_0
                 replace p246 := eq_true p246
                 replace q246 := eq_true q246
                 obtain ⟨Ao43, co43, eo43⟩ := Kd.V_slice HO_9.out
                 subst eo43
                 go_wp2_with (first | ((with_reducible refine gate_callee (f := 15) rfl ?_); refine goesL_ (some 71) rfl rfl Try.func15 (by kernel_rfl) rfl #[.slice Ao43 t240.length co43, .string (rdOf ByteArray.empty l0 x12_2)] rfl qM_ ?_; (with_reducible refine (sets_Has.calls k2 _ _ t240 (rdOf ByteArray.empty l0 x12_2) true _ ?side1 ?side2 A41.out).mono ?_); (case side1 => exact qC_ ((Kd.V_reads' HO_9.out).2.2)); (case side2 => exact (Kd.V_reads' HO_9.out).2.1); rintro e w' ⟨rfl, ⟨nd, rfl⟩⟩; refine ⟨_, rfl, ?_⟩))
                 go_roundg k2
                 case measure => have := HJ3.out; have := HK2.out; omega
                 case rel => exact ⟨(true), (wrap64 (x12_2 + 1)), (by first | rfl | (simp; done) | (simp [*]; done)), (by first | rfl | (simp; done) | (simp [*]; done)), H', ⟨by have := HJ3.out; have := HK2.out; omega⟩, ⟨by (with_reducible repeat (first | apply Kd.V_alloc | apply Kd.V_drewN | apply Kd.V_drew)); exact HO_9.out⟩, ⟨by (with_reducible repeat (first | apply Kd.V_alloc | apply Kd.V_drewN | apply Kd.V_drew)); exact HO_10.out⟩, ⟨(qdb35_ HB.out)⟩⟩
                ·replace c42 := Bool.eq_false_iff.mpr c42
                 subst c42
                 have H1 : (some false) = some r := by rw [if_neg (show ¬ (false = true) by decide)] at H; exact H
                 clear H
                 have H := H1
                 clear H1
                 subst hrt_; exact absurd H (by simp)
               ·rw [if_neg c40] at H
                exact absurd H (by simp)
              ·replace c39 := Bool.eq_false_iff.mpr c39
               subst c39
               have H1 : (if 0 ≤ x12_2 then ((sets_Has.f k2 t240 (rdOf ByteArray.empty l0 x12_2)).bind fun t250 => (if t250 = true then (caravanlaw9_SetsOrder.l0 k2 l0 a1 t240 t243 ((rdOf ByteArray.empty l0 x12_2).toList == a1.toList) (wrap64 (x12_2 + 1))) else (some false))) else (none)) = some r := by rw [if_neg (show ¬ (false = true) by decide)] at H; exact H
               clear H
               have H := H1
               clear H1
               by_cases c44 : 0 ≤ x12_2
               ·rw [if_pos c44] at H
                have c44b0 : decide (0 ≤ x12_2) = true := decide_eq_true c44
                clear c44
                replace H := Option.bind_eq_some_iff.mp H
                obtain ⟨t250, A450, H⟩ := H
                replace H : (if t250 = true then (caravanlaw9_SetsOrder.l0 k2 l0 a1 t240 t243 ((rdOf ByteArray.empty l0 x12_2).toList == a1.toList) (wrap64 (x12_2 + 1))) else (some false)) = some r := H
                have A45 := Aside0.mk A450
                clear A450
                by_cases c46 : t250 = true
                ·subst c46
                 have H1 : (caravanlaw9_SetsOrder.l0 k2 l0 a1 t240 t243 ((rdOf ByteArray.empty l0 x12_2).toList == a1.toList) (wrap64 (x12_2 + 1))) = some r := by rw [if_pos rfl] at H; exact H
                 clear H
                 have H := H1
                 clear H1
                 have H' := Aside0.mk H
                 clear H
                 have p248 : 0 ≤ (x12_2 : Int) := of_decide_eq_true (by first | (with_reducible assumption) | assumption)
                 have q248 : x12_2 < (l0.length : Int) := of_decide_eq_true (by first | (with_reducible assumption) | assumption)
                 obtain ⟨ad248, e248, hx248_0⟩ := Kd.at_string HR0.out x12_2 p248 q248
                 obtain rfl : ad233 = ad248 := (by injection e248)
                 replace hx248_0 := (HB.out.cell (World.block_lt_of_cell? w _ hx248_0)).trans hx248_0
                 replace p248 := eq_true p248
                 replace q248 := eq_true q248
                 have p249 : 0 ≤ (x12_2 : Int) := of_decide_eq_true (by first | (with_reducible assumption) | assumption)
                 have q249 : x12_2 < (l0.length : Int) := of_decide_eq_true (by first | (with_reducible assumption) | assumption)
                 obtain ⟨ad249, e249, hx249_0⟩ := Kd.at_string HR0.out x12_2 p249 q249
                 obtain rfl : ad233 = ad249 := (by injection e249)
                 replace hx249_0 := (HB.out.cell (World.block_lt_of_cell? w _ hx249_0)).trans hx249_0
                 replace p249 := eq_true p249
                 replace q249 := eq_true q249
                 obtain ⟨Ao47, co47, eo47⟩ := Kd.V_slice HO_9.out
                 subst eo47
                 go_wp2_with (first | ((with_reducible refine gate_callee (f := 15) rfl ?_); refine goesL_ (some 71) rfl rfl Try.func15 (by kernel_rfl) rfl #[.slice Ao47 t240.length co47, .string (rdOf ByteArray.empty l0 x12_2)] rfl qM_ ?_; (with_reducible refine (sets_Has.calls k2 _ _ t240 (rdOf ByteArray.empty l0 x12_2) true _ ?side1 ?side2 A45.out).mono ?_); (case side1 => exact qC_ ((Kd.V_reads' HO_9.out).2.2)); (case side2 => exact (Kd.V_reads' HO_9.out).2.1); rintro e w' ⟨rfl, ⟨nd, rfl⟩⟩; refine ⟨_, rfl, ?_⟩))
                 go_roundg k2
                 case measure => have := HJ3.out; have := HK2.out; omega
                 case rel => exact ⟨(((rdOf ByteArray.empty l0 x12_2).toList == a1.toList)), (wrap64 (x12_2 + 1)), (by first | rfl | (simp; done) | (simp [*]; done)), (by first | rfl | (simp; done) | (simp [*]; done)), H', ⟨by have := HJ3.out; have := HK2.out; omega⟩, ⟨by (with_reducible repeat (first | apply Kd.V_alloc | apply Kd.V_drewN | apply Kd.V_drew)); exact HO_9.out⟩, ⟨by (with_reducible repeat (first | apply Kd.V_alloc | apply Kd.V_drewN | apply Kd.V_drew)); exact HO_10.out⟩, ⟨(qdb35_ HB.out)⟩⟩
                ·replace c46 := Bool.eq_false_iff.mpr c46
                 subst c46
                 have H1 : (some false) = some r := by rw [if_neg (show ¬ (false = true) by decide)] at H; exact H
                 clear H
                 have H := H1
                 clear H1
                 subst hrt_; exact absurd H (by simp)
               ·rw [if_neg c44] at H
                exact absurd H (by simp)
             ·rw [if_neg c38] at H
              have c38b0 : decide (x12_2 < (l0.length : Int)) = false := decide_eq_false c38
              clear c38
              have H' := Aside0.mk H
              clear H
              go_wp2
              go_loopg [13] k2 (fun kq v13 w' => ∃ (x13_3 : Int), v13 = .int .i64 x13_3 ∧ Aside0 (caravanlaw9_SetsOrder.l1 kq l0 a1 t240 t243 x11_2 x13_3 = some r) ∧ Aside0 (kq ≤ k2) ∧ Aside0 (Kd.V Kd.string 9 w' w.heap.size (fun _ => True) v241 t240) ∧ Aside0 (Kd.V Kd.string 9 w' w.heap.size (fun _ => True) v244 t243) ∧ Aside0 (Below w.heap.size w w'))
              case atStart => exact ⟨(1), (by first | rfl | (simp; done) | (simp [*]; done)), H', ⟨Nat.le_refl _⟩, ⟨by (with_reducible repeat (first | apply Kd.V_alloc | apply Kd.V_drewN | apply Kd.V_drew)); exact HO_9.out⟩, ⟨by (with_reducible repeat (first | apply Kd.V_alloc | apply Kd.V_drewN | apply Kd.V_drew)); exact HO_10.out⟩, ⟨(qdb35_ HB.out)⟩⟩
              case round =>
               clear H'
               try clear c1
               try clear c2
               try clear p2
               try clear q2
               try clear hx2
               try clear c3
               try clear c4
               try clear c5
               try clear c5b0
               try clear c5b1
               try clear c5b2
               try clear p6
               try clear c7
               try clear c8
               try clear c11
               try clear c11b0
               try clear c11b1
               try clear c11b2
               try clear c13
               try clear c13b0
               try clear c13b1
               try clear c14
               try clear c14b0
               try clear c14b1
               try clear c15
               try clear c16
               try clear c16b0
               try clear c17
               try clear c17b0
               try clear c18
               try clear c19
               try clear c19b0
               try clear c20
               try clear p23
               try clear q23
               try clear hx23
               try clear p24
               try clear q24
               try clear hx24
               try clear c38
               try clear c38b0
               try clear c39
               try clear c40
               try clear c40b0
               try clear c42
               try clear c44
               try clear c44b0
               try clear c46
               try clear hx233_0
               try clear hx246_0
               try clear hx248_0
               try clear hx249_0
               try clear p2
               try clear p23
               try clear p233
               try clear p246
               try clear p248
               try clear p249
               try clear p6
               try clear q2
               try clear q23
               try clear q233
               try clear q246
               try clear q248
               try clear q249
               obtain ⟨x13_3, rfl, HA, HK3, HO_9, HO_10, HB⟩ := hrel
               cases gk with
               | zero => exact absurd HA.out (by simp [caravanlaw9_SetsOrder.l1])
               | succ k3 =>
                have H := HA.out
                clear HA
                simp only [caravanlaw9_SetsOrder.l1] at H
                by_cases c48 : x13_3 < (t240.length : Int)
                ·rw [if_pos c48] at H
                 have c48b0 : decide (x13_3 < (t240.length : Int)) = true := decide_eq_true c48
                 clear c48
                 obtain ⟨ji49, hji49⟩ : ∃ j_ : Int, (wrap64 (x13_3 - 1)) = j_ := ⟨_, rfl⟩
                 replace H : (if 0 ≤ (ji49) then (if (ji49) < (t240.length : Int) then (if 0 ≤ x13_3 then (if ((Op.bytesLess ((rdOf ByteArray.empty t240 (ji49)).toList) ((rdOf ByteArray.empty t240 x13_3).toList)) = true) then (caravanlaw9_SetsOrder.l1 k3 l0 a1 t240 t243 x11_2 (wrap64 (x13_3 + 1))) else (some false)) else (none)) else (none)) else (none)) = some r := by first | (rw [hji49] at H; exact H) | (simp only [hji49] at H ⊢; exact H)
                 have hji49w : (IntKind.i64.wrap (x13_3 - 1)) = ji49 := (i64_w _).trans hji49
                 by_cases c50 : 0 ≤ (ji49)
                 ·rw [if_pos c50] at H
                  have c50b0 : decide (0 ≤ (ji49)) = true := decide_eq_true c50
                  clear c50
                  by_cases c51 : (ji49) < (t240.length : Int)
                  ·rw [if_pos c51] at H
                   have c51b0 : decide ((ji49) < (t240.length : Int)) = true := decide_eq_true c51
                   clear c51
                   by_cases c52 : 0 ≤ x13_3
                   ·rw [if_pos c52] at H
                    have c52b0 : decide (0 ≤ x13_3) = true := decide_eq_true c52
                    clear c52
                    by_cases c53 : ((Op.bytesLess ((rdOf ByteArray.empty t240 (ji49)).toList) ((rdOf ByteArray.empty t240 x13_3).toList)) = true)
                    ·rw [if_pos c53] at H
                     have c53b0 : (Op.bytesLess ((rdOf ByteArray.empty t240 (ji49)).toList) ((rdOf ByteArray.empty t240 x13_3).toList)) = true := c53
                     clear c53
                     have H' := Aside0.mk H
                     clear H
                     obtain ⟨Ao54, co54, eo54⟩ := Kd.V_slice HO_9.out
                     subst eo54
                     try go_wp2
                     have n0_ := Aside0.mk (Kd.V_drew HO_9.out)
                     have n1_ := Aside0.mk (Kd.V_drew HO_10.out)
                     have n2_ := Aside0.mk (below_drew1 HB.out)
                     clear HO_9
                     clear HO_10
                     clear HB
                     have HO_9 := n0_
                     have HO_10 := n1_
                     have HB := n2_
                     clear n0_ n1_ n2_
                     have p251 : 0 ≤ ((ji49) : Int) := of_decide_eq_true (by first | (with_reducible assumption) | assumption)
                     have q251 : (ji49) < (t240.length : Int) := of_decide_eq_true (by first | (with_reducible assumption) | assumption)
                     obtain ⟨ad251, e251, hx251_0⟩ := Kd.at_string (Kd.V_reads' HO_9.out).2.2 (ji49) p251 q251
                     cases e251
                     replace p251 := eq_true p251
                     replace q251 := eq_true q251
                     have p252 : 0 ≤ (x13_3 : Int) := of_decide_eq_true (by first | (with_reducible assumption) | assumption)
                     have q252 : x13_3 < (t240.length : Int) := of_decide_eq_true (by first | (with_reducible assumption) | assumption)
                     obtain ⟨ad252, e252, hx252_0⟩ := Kd.at_string (Kd.V_reads' HO_9.out).2.2 x13_3 p252 q252
                     obtain rfl : ad251 = ad252 := (by injection e252)
                     replace p252 := eq_true p252
                     replace q252 := eq_true q252
                     refine start_ (n := 10) (S := fun w' => w'.cell? (ad251.add ((ji49)).toNat) = some (.string (rdOf ByteArray.empty t240 (ji49))) ∧ w'.cell? (ad251.add (x13_3).toNat) = some (.string (rdOf ByteArray.empty t240 x13_3))) (ds := []) (ml_ 10 0) (by kernel_rfl) rfl rfl ⟨hx251_0, hx252_0⟩ (fun hHeld => ?_); refine with_tabW caravanlaw9_SetsOrder.tab16 caravanlaw9_SetsOrder.bits16 (fun HT_ HW_ => ?_)
                     generalize wr.drew = w55 at HO_9 HO_10 HB hx251_0 hx252_0 hHeld ⊢
                     refine pA_ 0 79 (ml_ 10 1) rfl rfl HT_.out ?_
                     refine pA_ 1 80 (ml_ 10 3) rfl rfl HT_.out ?_
                     refine pA_ 2 81 (ml_ 10 7) rfl rfl HT_.out ?_
                     refine pA_ 3 82 (ml_ 10 15) rfl rfl HT_.out ?_
                     refine pA_ 5 84 (ml_ 10 47) rfl rfl HT_.out ?_
                     refine pA_ 6 85 (ml_ 10 111) rfl rfl HT_.out ?_
                     refine pA_ 7 86 (ml_ 10 239) rfl rfl HT_.out ?_
                     refine t2_ 4 83 (ml_ 10 255) rfl rfl HT_.out HW_.out hHeld ?_
                     refine t2_ 8 87 (ml_ 10 511) rfl rfl HT_.out HW_.out hHeld ?_
                     refine pA_ 9 88 (ml_ 10 1023) rfl rfl HT_.out ?_
                     refine done_ (done_of HT_.out (by kernel_rfl)) ?_
                     try go_wp2
                     go_roundg k3
                     case measure => have := HJ3.out; have := HK2.out; have := HK3.out; omega
                     case rel => exact ⟨(wrap64 (x13_3 + 1)), (by first | rfl | (simp; done) | (simp [*]; done)), H', ⟨by have := HJ3.out; have := HK2.out; have := HK3.out; omega⟩, ⟨by (with_reducible repeat (first | apply Kd.V_alloc | apply Kd.V_drewN | apply Kd.V_drew)); exact HO_9.out⟩, ⟨by (with_reducible repeat (first | apply Kd.V_alloc | apply Kd.V_drewN | apply Kd.V_drew)); exact HO_10.out⟩, ⟨(qdb35_ HB.out)⟩⟩
                    ·rw [if_neg c53] at H
                     have c53b0 : (Op.bytesLess ((rdOf ByteArray.empty t240 (ji49)).toList) ((rdOf ByteArray.empty t240 x13_3).toList)) = false := by simpa using c53
                     clear c53
                     subst hrt_; exact absurd H (by simp)
                   ·rw [if_neg c52] at H
                    exact absurd H (by simp)
                  ·rw [if_neg c51] at H
                   exact absurd H (by simp)
                 ·rw [if_neg c50] at H
                  exact absurd H (by simp)
                ·rw [if_neg c48] at H
                 have c48b0 : decide (x13_3 < (t240.length : Int)) = false := decide_eq_false c48
                 clear c48
                 replace H := Option.bind_eq_some_iff.mp H
                 obtain ⟨t253, A560, H⟩ := H
                 replace H : (if t253 = true then ((sets_Has.f k3 t240 a1).bind fun t254 => (if (t254 == x11_2) = true then (if (t240.length : Int) ≤ (l0.length : Int) then ((caravanlaw9_awake.f).bind fun t255 => (some t255)) else (some false)) else (some false))) else (some false)) = some r := H
                 have A56 := Aside0.mk A560
                 clear A560
                 by_cases c57 : t253 = true
                 ·subst c57
                  have H1 : ((sets_Has.f k3 t240 a1).bind fun t254 => (if (t254 == x11_2) = true then (if (t240.length : Int) ≤ (l0.length : Int) then ((caravanlaw9_awake.f).bind fun t255 => (some t255)) else (some false)) else (some false))) = some r := by rw [if_pos rfl] at H; exact H
                  clear H
                  have H := H1
                  clear H1
                  replace H := Option.bind_eq_some_iff.mp H
                  obtain ⟨t254, A580, H⟩ := H
                  replace H : (if (t254 == x11_2) = true then (if (t240.length : Int) ≤ (l0.length : Int) then ((caravanlaw9_awake.f).bind fun t255 => (some t255)) else (some false)) else (some false)) = some r := H
                  have A58 := Aside0.mk A580
                  clear A580
                  by_cases c59 : (t254 == x11_2) = true
                  ·rw [if_pos c59] at H
                   have c59b0 : (t254 == x11_2) = true := c59
                   (try (have c59b1 : decide (t254 = x11_2) = true := by simpa using c59))
                   (try (have c59b2 : (t254 == x11_2) = true := by simpa using c59))
                   clear c59
                   by_cases c60 : (t240.length : Int) ≤ (l0.length : Int)
                   ·rw [if_pos c60] at H
                    have c60b0 : decide ((t240.length : Int) ≤ (l0.length : Int)) = true := decide_eq_true c60
                    have c60b1 : decide (t240.length ≤ l0.length) = true := decide_eq_true (Int.ofNat_le.mp c60)
                    clear c60
                    replace H := Option.bind_eq_some_iff.mp H
                    obtain ⟨t255, A610, H⟩ := H
                    replace H : (some t255) = some r := H
                    have A61 := Aside0.mk A610
                    clear A610
                    obtain rfl := Option.some.inj H
                    obtain ⟨Ao62, co62, eo62⟩ := Kd.V_slice HO_9.out
                    subst eo62
                    obtain ⟨Ao63, co63, eo63⟩ := Kd.V_slice HO_10.out
                    subst eo63
                    go_wp2_with (first | ((with_reducible refine gate_callee (f := 9) rfl ?_); refine goesL_ (some 91) rfl rfl Try.func9 (by kernel_rfl) rfl #[.slice Ao62 t240.length co62, .slice Ao63 t243.length co63] rfl qM_ ?_; (with_reducible refine (caravanref1_Texts.calls k3 _ _ t240 _ _ t243 true _ ?side1 ?side2 ?side3 ?side4 A56.out).mono ?_); (case side1 => exact qC_ ((Kd.V_reads' HO_9.out).2.2)); (case side2 => exact (Kd.V_reads' HO_9.out).2.1); (case side3 => exact qC_ ((Kd.V_reads' HO_10.out).2.2)); (case side4 => exact (Kd.V_reads' HO_10.out).2.1); rintro e w' ⟨rfl, ⟨nd, rfl⟩⟩; refine ⟨_, rfl, ?_⟩) | (go_at_call 15; (with_reducible refine (sets_Has.calls k3 _ _ t240 a1 t254 _ ?side1 ?side2 A58.out).mono ?_); (case side1 => exact qC_ ((Kd.V_reads' HO_9.out).2.2)); (case side2 => exact (Kd.V_reads' HO_9.out).2.1); rintro e w' ⟨rfl, ⟨nd, rfl⟩⟩) | (go_at_call 7; (with_reducible refine (caravanlaw9_awake.calls  t255 _ A61.out).mono ?_); rintro e w64 ⟨rfl, hb⟩; have n0_ := Aside0.mk (Kd.V_below (q4d18_ HO_9.out) hb); have n1_ := Aside0.mk (Kd.V_below (q4d18_ HO_10.out) hb); have n2_ := Aside0.mk (below_step (qdb35_ HB.out) hb); clear HO_9; clear HO_10; clear HB; have HO_9 := n0_; have HO_10 := n1_; have HB := n2_; clear n0_ n1_ n2_; (try clear hb); (try clear hb2); (try clear hk); (try clear hi)))
                    go_ret
                    exact ⟨by first | rfl | (simp [errW_none, errW_some] <;> rfl) | (simp only [← hji12]; first | rfl | (simp [errW_none, errW_some] <;> rfl)) | (simp [*, errW_none, errW_some] <;> rfl), (qdb35_ HB.out)⟩
                   ·rw [if_neg c60] at H
                    have c60b0 : decide ((t240.length : Int) ≤ (l0.length : Int)) = false := decide_eq_false c60
                    have c60b1 : decide (t240.length ≤ l0.length) = false := decide_eq_false (fun h => c60 (Int.ofNat_le.mpr h))
                    clear c60
                    subst hrt_; exact absurd H (by simp)
                  ·rw [if_neg c59] at H
                   have c59b0 : (t254 == x11_2) = false := by simpa using c59
                   (try (have c59b1 : decide (t254 = x11_2) = false := by simpa using c59))
                   (try (have c59b2 : (t254 == x11_2) = false := by simpa using c59))
                   (try (have c59b3 : ¬ (t254 = x11_2) := by simpa using c59))
                   clear c59
                   subst hrt_; exact absurd H (by simp)
                 ·replace c57 := Bool.eq_false_iff.mpr c57
                  subst c57
                  have H1 : (some false) = some r := by rw [if_neg (show ¬ (false = true) by decide)] at H; exact H
                  clear H
                  have H := H1
                  clear H1
                  subst hrt_; exact absurd H (by simp)
          ·rw [if_neg c20] at H
           exact absurd H (by simp)
         ·rw [if_neg c19] at H
          exact absurd H (by simp)
        ·rw [if_neg c18] at H
         exact absurd H (by simp)
       ·rw [if_neg c15] at H
        exact absurd H (by simp)
      ·rw [if_neg c14] at H
       exact absurd H (by simp)
     ·rw [if_neg c13] at H
      exact absurd H (by simp)

end Go.Proofs.Ytelgfangaigncaa.G
