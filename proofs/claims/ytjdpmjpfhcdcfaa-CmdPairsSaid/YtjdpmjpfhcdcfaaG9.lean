/- What functions of the translation come to, and their calls' proofs; by a program of mine over the kit's print, with contracts given by hand beside. Conditions: where a plain function tells none, nothing is said. -/
import Derived.Test.YtjdpmjpfhcdcfaaG0
import Derived.Test.YtjdpmjpfhcdcfaaG2
import Derived.Test.YtjdpmjpfhcdcfaaG8
import Derived.Test.YtjdpmjpfhcdcfaaGCheck
import Derived.Test.YtjdpmjpfhcdcfaaGKeys
namespace Go.Proofs.Ytjdpmjpfhcdcfaa.G
open Go.RowKit Go.Proofs.YtjdpmjpfhcdcfaaW.PrintWords Go.Proofs.YtjdpmjpfhcdcfaaW.PrintLast Go.Proofs.YtjdpmjpfhcdcfaaW.PrintMore
attribute [local go_sem] max2_int min2_int max_two min_two max_three min_three max_four min_four   -- for this text's walks alone
set_option linter.unusedVariables false
set_option linter.unusedSimpArgs false

/-! ### caravanlaw4_CmdPairs: function 4 -/
mutual
def caravanlaw4_CmdPairs.j0 : Nat → Bool → Int → ByteArray → Bool → Option (Bool)
 | 0, _, _, _, _ => none
 | k + 1, x2, x7, x8, x9 => (some (([x8] : List ByteArray) : List ByteArray)).bind fun y597 => (if x8.toList = ([72, 83, 69, 84] : List UInt8) then (if y597.length < 8796093022208 then (caravanlaw4_CmdPairs.j1 k x2 x7 x8 x9 (y597 ++ [(⟨#[107, 101, 121]⟩ : ByteArray)])) else (none)) else (caravanlaw4_CmdPairs.j1 k x2 x7 x8 x9 y597))
def caravanlaw4_CmdPairs.j1 : Nat → Bool → Int → ByteArray → Bool → List ByteArray → Option (Bool)
 | 0, _, _, _, _, _ => none
 | k + 1, x2, x7, x8, x9, x10 => caravanlaw4_CmdPairs.l0 k x2 x7 x8 x9 x10 0
def caravanlaw4_CmdPairs.l0 : Nat → Bool → Int → ByteArray → Bool → List ByteArray → Int → Option (Bool)
 | 0, _, _, _, _, _, _ => none
 | k + 1, x2, x7, x8, x9, x10, x11 => if x11 < x7 then ((caravanref1_Digits.f k x11).bind fun t603 => (if 1 + t603.size ≤ 9223372036854775807 then (if x10.length < 8796093022208 then ((some (x10 ++ [(⟨#[107]⟩ : ByteArray) ++ t603] : List ByteArray)).bind fun y604 => (if x9 = true then (if y604.length < 8796093022208 then (caravanlaw4_CmdPairs.l0 k x2 x7 x8 x9 (y604 ++ [(⟨#[118]⟩ : ByteArray)]) (wrap64 (x11 + 1))) else (none)) else (caravanlaw4_CmdPairs.l0 k x2 x7 x8 x9 y604 (wrap64 (x11 + 1))))) else (none)) else (none))) else (if x2 = true then (caravanlaw4_CmdPairs.j3 k x7 x8 x10 x9) else (caravanlaw4_CmdPairs.j3 k x7 x8 x10 false))
def caravanlaw4_CmdPairs.j3 : Nat → Int → ByteArray → List ByteArray → Bool → Option (Bool)
 | 0, _, _, _, _ => none
 | k + 1, x7, x8, x10, x58 => if x58 = true then (if x10.length < 8796093022208 then ((cmd_Check.f (x10 ++ [(⟨#[120]⟩ : ByteArray)])).bind fun bt613 => (if bt613.2.2.2.2.2.2.2 = true then (some false) else ((caravanlaw4_awake.f).bind fun t622 => (some t622)))) else (none)) else ((cmd_Keys.f x10).bind fun t623 => (if x8.toList = ([72, 83, 69, 84] : List UInt8) then (if (t623.length : Int) = 1 then (if 0 < (t623.length : Int) then (if (rdOf ByteArray.empty t623 0).toList = ([107, 101, 121] : List UInt8) then ((caravanlaw4_awake.f).bind fun t627 => (some t627)) else (some false)) else (none)) else (some false)) else (if (t623.length : Int) = x7 then (caravanlaw4_CmdPairs.l1 k x7 t623 0) else (some false))))
def caravanlaw4_CmdPairs.l1 : Nat → Int → List ByteArray → Int → Option (Bool)
 | 0, _, _, _ => none
 | k + 1, x7, x14, x15 => if x15 < x7 then (if 0 ≤ x15 then (if x15 < (x14.length : Int) then ((caravanref1_Digits.f k x15).bind fun t629 => (if 1 + t629.size ≤ 9223372036854775807 then (if (rdOf ByteArray.empty x14 x15).toList = ((⟨#[107]⟩ : ByteArray) ++ t629).toList then (caravanlaw4_CmdPairs.l1 k x7 x14 (wrap64 (x15 + 1))) else (some false)) else (none))) else (none)) else (none)) else ((caravanlaw4_awake.f).bind fun t630 => (some t630))
end
def caravanlaw4_CmdPairs.f (k : Nat) (a0 : Int) (a1 : Int) (a2 : Bool) : Option (Bool) := (some (([(⟨#[77, 83, 69, 84]⟩ : ByteArray), (⟨#[77, 83, 69, 84, 78, 88]⟩ : ByteArray), (⟨#[68, 69, 76]⟩ : ByteArray), (⟨#[77, 71, 69, 84]⟩ : ByteArray), (⟨#[69, 88, 73, 83, 84, 83]⟩ : ByteArray), (⟨#[72, 83, 69, 84]⟩ : ByteArray), (⟨#[83, 73, 78, 84, 69, 82]⟩ : ByteArray)] : List ByteArray) : List ByteArray)).bind fun y593 => (if 0 ≤ (Int.tmod a1 7) then (if (Int.tmod a1 7) < (y593.length : Int) then (if (Int.tmod a1 7) < 2 then (caravanlaw4_CmdPairs.j0 k a2 (wrap64 (1 + (Int.tmod (wrap64 (a0)) 20))) (rdOf ByteArray.empty y593 (Int.tmod a1 7)) true) else (caravanlaw4_CmdPairs.j0 k a2 (wrap64 (1 + (Int.tmod (wrap64 (a0)) 20))) (rdOf ByteArray.empty y593 (Int.tmod a1 7)) ((Int.tmod a1 7) == 5))) else (none)) else (none))
theorem caravanlaw4_CmdPairs.mono_l : ∀ k, (∀ y0 y1 y2 y3, LeO (caravanlaw4_CmdPairs.j0 k y0 y1 y2 y3) (caravanlaw4_CmdPairs.j0 (k + 1) y0 y1 y2 y3)) ∧ (∀ y0 y1 y2 y3 y4, LeO (caravanlaw4_CmdPairs.j1 k y0 y1 y2 y3 y4) (caravanlaw4_CmdPairs.j1 (k + 1) y0 y1 y2 y3 y4)) ∧ (∀ y0 y1 y2 y3 y4 y5, LeO (caravanlaw4_CmdPairs.l0 k y0 y1 y2 y3 y4 y5) (caravanlaw4_CmdPairs.l0 (k + 1) y0 y1 y2 y3 y4 y5)) ∧ (∀ y0 y1 y2 y3, LeO (caravanlaw4_CmdPairs.j3 k y0 y1 y2 y3) (caravanlaw4_CmdPairs.j3 (k + 1) y0 y1 y2 y3)) ∧ (∀ y0 y1 y2, LeO (caravanlaw4_CmdPairs.l1 k y0 y1 y2) (caravanlaw4_CmdPairs.l1 (k + 1) y0 y1 y2))
 | 0 => ⟨fun _ _ _ _ r h => by simp [caravanlaw4_CmdPairs.j0] at h, fun _ _ _ _ _ r h => by simp [caravanlaw4_CmdPairs.j1] at h, fun _ _ _ _ _ _ r h => by simp [caravanlaw4_CmdPairs.l0] at h, fun _ _ _ _ r h => by simp [caravanlaw4_CmdPairs.j3] at h, fun _ _ _ r h => by simp [caravanlaw4_CmdPairs.l1] at h⟩
 | k + 1 => by
  obtain ⟨ih0, ih1, ih2, ih3, ih4⟩ := caravanlaw4_CmdPairs.mono_l k
  refine ⟨?_, ?_, ?_, ?_, ?_⟩
  ·intro y0 y1 y2 y3
   unfold caravanlaw4_CmdPairs.j0
   repeat' first
   | (with_reducible exact ih0 _ _ _ _)
   | (with_reducible exact ih1 _ _ _ _ _)
   | (with_reducible exact ih2 _ _ _ _ _ _)
   | (with_reducible exact ih3 _ _ _ _)
   | (with_reducible exact ih4 _ _ _)
   | (with_reducible exact caravanref1_Digits.mono _ _)
   | (with_reducible exact LeO.refl _)
   | (with_reducible exact LeO.none _)
   | (with_reducible refine LeO.ite ?_ ?_)
   | (with_reducible refine LeO.bind ?_ (fun _ => ?_))
   | exact ih0 _ _ _ _
   | exact ih1 _ _ _ _ _
   | exact ih2 _ _ _ _ _ _
   | exact ih3 _ _ _ _
   | exact ih4 _ _ _
   | exact caravanref1_Digits.mono _ _
   | exact LeO.none _
   | refine LeO.ite ?_ ?_
   | refine LeO.bind ?_ (fun _ => ?_)
  ·intro y0 y1 y2 y3 y4
   unfold caravanlaw4_CmdPairs.j1
   repeat' first
   | (with_reducible exact ih0 _ _ _ _)
   | (with_reducible exact ih1 _ _ _ _ _)
   | (with_reducible exact ih2 _ _ _ _ _ _)
   | (with_reducible exact ih3 _ _ _ _)
   | (with_reducible exact ih4 _ _ _)
   | (with_reducible exact caravanref1_Digits.mono _ _)
   | (with_reducible exact LeO.refl _)
   | (with_reducible exact LeO.none _)
   | (with_reducible refine LeO.ite ?_ ?_)
   | (with_reducible refine LeO.bind ?_ (fun _ => ?_))
   | exact ih0 _ _ _ _
   | exact ih1 _ _ _ _ _
   | exact ih2 _ _ _ _ _ _
   | exact ih3 _ _ _ _
   | exact ih4 _ _ _
   | exact caravanref1_Digits.mono _ _
   | exact LeO.none _
   | refine LeO.ite ?_ ?_
   | refine LeO.bind ?_ (fun _ => ?_)
  ·intro y0 y1 y2 y3 y4 y5
   unfold caravanlaw4_CmdPairs.l0
   repeat' first
   | (with_reducible exact ih0 _ _ _ _)
   | (with_reducible exact ih1 _ _ _ _ _)
   | (with_reducible exact ih2 _ _ _ _ _ _)
   | (with_reducible exact ih3 _ _ _ _)
   | (with_reducible exact ih4 _ _ _)
   | (with_reducible exact caravanref1_Digits.mono _ _)
   | (with_reducible exact LeO.refl _)
   | (with_reducible exact LeO.none _)
   | (with_reducible refine LeO.ite ?_ ?_)
   | (with_reducible refine LeO.bind ?_ (fun _ => ?_))
   | exact ih0 _ _ _ _
   | exact ih1 _ _ _ _ _
   | exact ih2 _ _ _ _ _ _
   | exact ih3 _ _ _ _
   | exact ih4 _ _ _
   | exact caravanref1_Digits.mono _ _
   | exact LeO.none _
   | refine LeO.ite ?_ ?_
   | refine LeO.bind ?_ (fun _ => ?_)
  ·intro y0 y1 y2 y3
   unfold caravanlaw4_CmdPairs.j3
   repeat' first
   | (with_reducible exact ih0 _ _ _ _)
   | (with_reducible exact ih1 _ _ _ _ _)
   | (with_reducible exact ih2 _ _ _ _ _ _)
   | (with_reducible exact ih3 _ _ _ _)
   | (with_reducible exact ih4 _ _ _)
   | (with_reducible exact caravanref1_Digits.mono _ _)
   | (with_reducible exact LeO.refl _)
   | (with_reducible exact LeO.none _)
   | (with_reducible refine LeO.ite ?_ ?_)
   | (with_reducible refine LeO.bind ?_ (fun _ => ?_))
   | exact ih0 _ _ _ _
   | exact ih1 _ _ _ _ _
   | exact ih2 _ _ _ _ _ _
   | exact ih3 _ _ _ _
   | exact ih4 _ _ _
   | exact caravanref1_Digits.mono _ _
   | exact LeO.none _
   | refine LeO.ite ?_ ?_
   | refine LeO.bind ?_ (fun _ => ?_)
  ·intro y0 y1 y2
   unfold caravanlaw4_CmdPairs.l1
   repeat' first
   | (with_reducible exact ih0 _ _ _ _)
   | (with_reducible exact ih1 _ _ _ _ _)
   | (with_reducible exact ih2 _ _ _ _ _ _)
   | (with_reducible exact ih3 _ _ _ _)
   | (with_reducible exact ih4 _ _ _)
   | (with_reducible exact caravanref1_Digits.mono _ _)
   | (with_reducible exact LeO.refl _)
   | (with_reducible exact LeO.none _)
   | (with_reducible refine LeO.ite ?_ ?_)
   | (with_reducible refine LeO.bind ?_ (fun _ => ?_))
   | exact ih0 _ _ _ _
   | exact ih1 _ _ _ _ _
   | exact ih2 _ _ _ _ _ _
   | exact ih3 _ _ _ _
   | exact ih4 _ _ _
   | exact caravanref1_Digits.mono _ _
   | exact LeO.none _
   | refine LeO.ite ?_ ?_
   | refine LeO.bind ?_ (fun _ => ?_)
theorem caravanlaw4_CmdPairs.mono : ∀ a0 a1 a2 k, LeO (caravanlaw4_CmdPairs.f k a0 a1 a2) (caravanlaw4_CmdPairs.f (k + 1) a0 a1 a2) := by
 intro a0 a1 a2 k
 obtain ⟨ih0, ih1, ih2, ih3, ih4⟩ := caravanlaw4_CmdPairs.mono_l k
 unfold caravanlaw4_CmdPairs.f
 repeat' first
  | (with_reducible exact ih0 _ _ _ _)
  | (with_reducible exact ih1 _ _ _ _ _)
  | (with_reducible exact ih2 _ _ _ _ _ _)
  | (with_reducible exact ih3 _ _ _ _)
  | (with_reducible exact ih4 _ _ _)
  | (with_reducible exact caravanref1_Digits.mono _ _)
  | (with_reducible exact LeO.refl _)
  | (with_reducible exact LeO.none _)
  | (with_reducible refine LeO.ite ?_ ?_)
  | (with_reducible refine LeO.bind ?_ (fun _ => ?_))
  | exact ih0 _ _ _ _
  | exact ih1 _ _ _ _ _
  | exact ih2 _ _ _ _ _ _
  | exact ih3 _ _ _ _
  | exact ih4 _ _ _
  | exact caravanref1_Digits.mono _ _
  | exact LeO.none _
  | refine LeO.ite ?_ ?_
  | refine LeO.bind ?_ (fun _ => ?_)
def caravanlaw4_CmdPairs.T24 : Bool × List (List Nat × List Nat) := (true, [([], []), ([], []), ([0, 1], [0, 1]), ([2], [2]), ([], []), ([4], [4]), ([5], [5]), ([3, 6], [3, 6])])
def caravanlaw4_CmdPairs.B24 : List Nat := [0, 0, 3, 7, 0, 16, 48, 127]
theorem caravanlaw4_CmdPairs.tab24 : rtab .any (opsOf Try.f4 24) = caravanlaw4_CmdPairs.T24 := by kernel_rfl
theorem caravanlaw4_CmdPairs.bits24 : waitsOk caravanlaw4_CmdPairs.T24.2 caravanlaw4_CmdPairs.B24 = true := by kernel_rfl
set_option maxHeartbeats 8000000 in
set_option maxRecDepth 100000 in
theorem caravanlaw4_CmdPairs.calls (k : Nat) (a0 : Int) (a1 : Int) (a2 : Bool) (r : Bool) (w : World) (h : caravanlaw4_CmdPairs.f k a0 a1 a2 = some r) (hrt_ : r = true) :
 Calls Try.prog 4 #[.int .u8 a0, .int .u8 a1, .bool a2] w fun e w' => e = .returned (.bool r) ∧ Below w.heap.size w w' := by
 have hu26 := Try.underlying26
 have HB := Aside0.mk (Below.refl w.heap.size w)
 have H : ((some (([(⟨#[77, 83, 69, 84]⟩ : ByteArray), (⟨#[77, 83, 69, 84, 78, 88]⟩ : ByteArray), (⟨#[68, 69, 76]⟩ : ByteArray), (⟨#[77, 71, 69, 84]⟩ : ByteArray), (⟨#[69, 88, 73, 83, 84, 83]⟩ : ByteArray), (⟨#[72, 83, 69, 84]⟩ : ByteArray), (⟨#[83, 73, 78, 84, 69, 82]⟩ : ByteArray)] : List ByteArray) : List ByteArray)).bind fun y593 => (if 0 ≤ (Int.tmod a1 7) then (if (Int.tmod a1 7) < (y593.length : Int) then (if (Int.tmod a1 7) < 2 then (caravanlaw4_CmdPairs.j0 k a2 (wrap64 (1 + (Int.tmod (wrap64 (a0)) 20))) (rdOf ByteArray.empty y593 (Int.tmod a1 7)) true) else (caravanlaw4_CmdPairs.j0 k a2 (wrap64 (1 + (Int.tmod (wrap64 (a0)) 20))) (rdOf ByteArray.empty y593 (Int.tmod a1 7)) ((Int.tmod a1 7) == 5))) else (none)) else (none))) = some r := h
 clear h
 obtain ⟨y593, hy593⟩ : ∃ y_ : List ByteArray, y_ = (([(⟨#[77, 83, 69, 84]⟩ : ByteArray), (⟨#[77, 83, 69, 84, 78, 88]⟩ : ByteArray), (⟨#[68, 69, 76]⟩ : ByteArray), (⟨#[77, 71, 69, 84]⟩ : ByteArray), (⟨#[69, 88, 73, 83, 84, 83]⟩ : ByteArray), (⟨#[72, 83, 69, 84]⟩ : ByteArray), (⟨#[83, 73, 78, 84, 69, 82]⟩ : ByteArray)] : List ByteArray)) := ⟨_, rfl⟩
 replace H : (if 0 ≤ (Int.tmod a1 7) then (if (Int.tmod a1 7) < (y593.length : Int) then (if (Int.tmod a1 7) < 2 then (caravanlaw4_CmdPairs.j0 k a2 (wrap64 (1 + (Int.tmod (wrap64 (a0)) 20))) (rdOf ByteArray.empty y593 (Int.tmod a1 7)) true) else (caravanlaw4_CmdPairs.j0 k a2 (wrap64 (1 + (Int.tmod (wrap64 (a0)) 20))) (rdOf ByteArray.empty y593 (Int.tmod a1 7)) ((Int.tmod a1 7) == 5))) else (none)) else (none)) = some r := by first | (rw [hy593]; with_reducible exact H) | (have H2_ := (Option.bind_some _ _).symm.trans H; rw [hy593]; with_reducible exact H2_) | (have H2_ := (Option.bind_some _ _).symm.trans H; with_reducible exact H2_) | with_reducible exact H | (rw [hy593]; exact H) | exact H
 have Ny593 := Aside0.mk hy593
 clear hy593
 obtain ⟨ji4, hji4⟩ : ∃ j_ : Int, (Int.tmod a1 7) = j_ := ⟨_, rfl⟩
 replace H : (if 0 ≤ (ji4) then (if (ji4) < (y593.length : Int) then (if (ji4) < 2 then (caravanlaw4_CmdPairs.j0 k a2 (wrap64 (1 + (Int.tmod (wrap64 (a0)) 20))) (rdOf ByteArray.empty y593 (ji4)) true) else (caravanlaw4_CmdPairs.j0 k a2 (wrap64 (1 + (Int.tmod (wrap64 (a0)) 20))) (rdOf ByteArray.empty y593 (ji4)) ((ji4) == 5))) else (none)) else (none)) = some r := by first | (rw [hji4] at H; exact H) | (simp only [hji4] at H ⊢; exact H)
 by_cases c5 : 0 ≤ (ji4)
 ·rw [if_pos c5] at H
  have c5b0 : decide (0 ≤ (ji4)) = true := decide_eq_true c5
  clear c5
  by_cases c6 : (ji4) < (y593.length : Int)
  ·rw [if_pos c6] at H
   have c6b0 : decide ((ji4) < (y593.length : Int)) = true := decide_eq_true c6
   clear c6
   have HC7 := Aside0.mk H
   clear H
   go_enter Try.func4, Try.ntmps4
   go_upto_region 3 with (first | ((with_reducible refine gate_dst (N := 20) rfl ?_); refine Kd.R_lit Kd.string _ 9 ?hg (N := 20) ?hd (xs := ([(⟨#[77, 83, 69, 84]⟩ : ByteArray), (⟨#[77, 83, 69, 84, 78, 88]⟩ : ByteArray), (⟨#[68, 69, 76]⟩ : ByteArray), (⟨#[77, 71, 69, 84]⟩ : ByteArray), (⟨#[69, 88, 73, 83, 84, 83]⟩ : ByteArray), (⟨#[72, 83, 69, 84]⟩ : ByteArray), (⟨#[83, 73, 78, 84, 69, 82]⟩ : ByteArray)] : List ByteArray)) (inner := [.string (⟨#[77, 83, 69, 84]⟩ : ByteArray), .string (⟨#[77, 83, 69, 84, 78, 88]⟩ : ByteArray), .string (⟨#[68, 69, 76]⟩ : ByteArray), .string (⟨#[77, 71, 69, 84]⟩ : ByteArray), .string (⟨#[69, 88, 73, 83, 84, 83]⟩ : ByteArray), .string (⟨#[72, 83, 69, 84]⟩ : ByteArray), .string (⟨#[83, 73, 78, 84, 69, 82]⟩ : ByteArray)]) (ok := fun _ => True) (okp := fun _ => True) ?hr ?hp (fun _ hk => hk) trivial (Below.refl _ _) (Nat.le_refl _) (by simp) ?_; (case hd => rfl); (case hg => rfl); (case hr => first | (go_simp; done) | (go_simp; rfl)); (case hp => exact (Reps.one (show Kd.M Kd.string _ _ _ (⟨#[77, 83, 69, 84]⟩ : ByteArray) [.string (⟨#[77, 83, 69, 84]⟩ : ByteArray)] from rfl) (Reps.one (show Kd.M Kd.string _ _ _ (⟨#[77, 83, 69, 84, 78, 88]⟩ : ByteArray) [.string (⟨#[77, 83, 69, 84, 78, 88]⟩ : ByteArray)] from rfl) (Reps.one (show Kd.M Kd.string _ _ _ (⟨#[68, 69, 76]⟩ : ByteArray) [.string (⟨#[68, 69, 76]⟩ : ByteArray)] from rfl) (Reps.one (show Kd.M Kd.string _ _ _ (⟨#[77, 71, 69, 84]⟩ : ByteArray) [.string (⟨#[77, 71, 69, 84]⟩ : ByteArray)] from rfl) (Reps.one (show Kd.M Kd.string _ _ _ (⟨#[69, 88, 73, 83, 84, 83]⟩ : ByteArray) [.string (⟨#[69, 88, 73, 83, 84, 83]⟩ : ByteArray)] from rfl) (Reps.one (show Kd.M Kd.string _ _ _ (⟨#[72, 83, 69, 84]⟩ : ByteArray) [.string (⟨#[72, 83, 69, 84]⟩ : ByteArray)] from rfl) (Reps.one (show Kd.M Kd.string _ _ _ (⟨#[83, 73, 78, 84, 69, 82]⟩ : ByteArray) [.string (⟨#[83, 73, 78, 84, 69, 82]⟩ : ByteArray)] from rfl) (Reps.none _ _))))))))); intro v594 w8 ho9 hb hg_ hnew_; clear hg_ hnew_; (first | rw [← Ny593.out] at ho9 | (simp only [Int.reduceToNat] at ho9; rw [← Ny593.out] at ho9)); have n0_ := Aside0.mk (Kd.R_lower ho9 (below_size (qdb35_ HB.out))); have n1_ := Aside0.mk (below_step (qdb35_ HB.out) hb); clear HB; have HO595 := n0_; have HB := n1_; clear n0_ n1_; clear hb ho9; obtain ⟨Ao10, co10, eo10⟩ := Kd.R_slice HO595.out; subst eo10; have p596 : 0 ≤ ((ji4) : Int) := of_decide_eq_true (by first | (with_reducible assumption) | assumption); have q596 : (ji4) < (y593.length : Int) := of_decide_eq_true (by first | (with_reducible assumption) | assumption); obtain ⟨ad596, e596, hx596_0⟩ := Kd.at_string (Kd.R_reads' HO595.out).2.2 (ji4) p596 q596; cases e596; replace p596 := eq_true p596; replace q596 := eq_true q596))
   (try simp only [Act.put, List.setIfInBounds_toArray, List.set_cons_zero, List.set_cons_succ])
   go_cut [9] (fun v9 wc => ∃ (kq : Nat) (x9_6 : Bool), v9 = .bool x9_6 ∧ Aside0 (caravanlaw4_CmdPairs.j0 kq a2 (wrap64 (1 + (Int.tmod (wrap64 (a0)) 20))) (rdOf ByteArray.empty y593 (ji4)) x9_6 = some r) ∧ Aside0 (kq ≤ k) ∧ Aside0 (Below w.heap.size w wc))
   case first =>
    have H := HC7.out
    clear HC7
    by_cases c11 : (ji4) < 2
    ·rw [if_pos c11] at H
     have c11b0 : decide ((ji4) < 2) = true := decide_eq_true c11
     clear c11
     (first | rw [c11b0] | (simp only [i64_w, i32_w]; rw [c11b0]) | skip)
     have H' := Aside0.mk H
     clear H
     go_wp2
     go_meet
     case rel => exact ⟨_, (true), (by first | rfl | (simp; done) | (simp [*]; done)), H', ⟨by first | omega | exact Nat.le_refl _⟩, ⟨(qdb35_ HB.out)⟩⟩
    ·rw [if_neg c11] at H
     have c11b0 : decide ((ji4) < 2) = false := decide_eq_false c11
     clear c11
     (first | rw [c11b0] | (simp only [i64_w, i32_w]; rw [c11b0]) | skip)
     have H' := Aside0.mk H
     clear H
     go_wp2
     go_meet
     case rel => exact ⟨_, (((ji4) == 5)), (by first | rfl | (simp; done) | (simp only [← hji4] <;> (first | rfl | simp)) | (simp [*]; done)), H', ⟨by first | omega | exact Nat.le_refl _⟩, ⟨(qdb35_ HB.out)⟩⟩
   case rest =>
    clear HC7
    try clear c1
    try clear p2
    try clear c4
    try clear c5
    try clear c5b0
    try clear p5
    try clear q5
    try clear hx5
    try clear c6
    try clear c6b0
    try clear p6
    try clear c11
    try clear c11b0
    try clear hx596_0
    try clear p596
    try clear q596
    obtain ⟨kq, x9_6, rfl, HA, HJ6, HB⟩ := hcut
    cases kq with
    | zero => exact absurd HA.out (by simp [caravanlaw4_CmdPairs.j0])
    | succ kj6 =>
     have H := HA.out
     clear HA
     simp only [caravanlaw4_CmdPairs.j0] at H
     obtain ⟨y597, hy597⟩ : ∃ y_ : List ByteArray, y_ = (([(rdOf ByteArray.empty y593 (ji4))] : List ByteArray)) := ⟨_, rfl⟩
     replace H : (if (rdOf ByteArray.empty y593 (ji4)).toList = ([72, 83, 69, 84] : List UInt8) then (if y597.length < 8796093022208 then (caravanlaw4_CmdPairs.j1 kj6 a2 (wrap64 (1 + (Int.tmod (wrap64 (a0)) 20))) (rdOf ByteArray.empty y593 (ji4)) x9_6 (y597 ++ [(⟨#[107, 101, 121]⟩ : ByteArray)])) else (none)) else (caravanlaw4_CmdPairs.j1 kj6 a2 (wrap64 (1 + (Int.tmod (wrap64 (a0)) 20))) (rdOf ByteArray.empty y593 (ji4)) x9_6 y597)) = some r := by first | (rw [hy597]; with_reducible exact H) | (have H2_ := (Option.bind_some _ _).symm.trans H; rw [hy597]; with_reducible exact H2_) | (have H2_ := (Option.bind_some _ _).symm.trans H; with_reducible exact H2_) | with_reducible exact H | (rw [hy597]; exact H) | exact H
     have Ny597 := Aside0.mk hy597
     clear hy597
     have HC12 := Aside0.mk H
     clear H
     go_upto_if 36 with (first | ((with_reducible refine gate_dst (N := 34) rfl ?_); refine Kd.R_lit Kd.string _ 9 ?hg (N := 34) ?hd (xs := ([(rdOf ByteArray.empty y593 (ji4))] : List ByteArray)) (inner := [.string (rdOf ByteArray.empty y593 (ji4))]) (ok := fun _ => True) (okp := fun _ => True) ?hr ?hp (fun _ hk => hk) trivial (Below.refl _ _) (Nat.le_refl _) (by simp) ?_; (case hd => rfl); (case hg => rfl); (case hr => first | (go_simp; done) | (go_simp; rfl)); (case hp => exact (Reps.one (show Kd.M Kd.string _ _ _ (rdOf ByteArray.empty y593 (ji4)) [.string (rdOf ByteArray.empty y593 (ji4))] from rfl) (Reps.none _ _))); intro v598 w13 ho14 hb hg_ hnew_; clear hg_ hnew_; (first | rw [← Ny597.out] at ho14 | (simp only [Int.reduceToNat] at ho14; rw [← Ny597.out] at ho14)); have n0_ := Aside0.mk (Kd.R_lower ho14 (below_size (qdb35_ HB.out))); have n1_ := Aside0.mk (below_step (qdb35_ HB.out) hb); clear HB; have HO599 := n0_; have HB := n1_; clear n0_ n1_; clear hb ho14))
     (try simp only [Act.put, List.setIfInBounds_toArray, List.set_cons_zero, List.set_cons_succ])
     go_cut [10] (fun v10 wc => ∃ (kq : Nat) (x10_11 : List ByteArray), Aside0 (caravanlaw4_CmdPairs.j1 kq a2 (wrap64 (1 + (Int.tmod (wrap64 (a0)) 20))) (rdOf ByteArray.empty y593 (ji4)) x9_6 x10_11 = some r) ∧ Aside0 (kq ≤ kj6) ∧ Aside0 (Kd.R Kd.string 9 wc w.heap.size (fun _ => True) v10 x10_11) ∧ Aside0 (Below w.heap.size w wc))
     case first =>
      have H := HC12.out
      clear HC12
      by_cases c15 : (rdOf ByteArray.empty y593 (ji4)).toList = ([72, 83, 69, 84] : List UInt8)
      ·rw [if_pos c15] at H
       have c15b0 : ((rdOf ByteArray.empty y593 (ji4)).toList == ([72, 83, 69, 84] : List UInt8)) = true := beq_iff_eq.mpr c15
       have c15b1 : ((rdOf ByteArray.empty y593 (ji4)).toList != ([72, 83, 69, 84] : List UInt8)) = false := bne_eq_false_iff_eq.mpr c15
       clear c15
       (first | rw [c15b0] | (simp only [i64_w, i32_w]; rw [c15b0]) | skip)
       by_cases c16 : y597.length < 8796093022208
       ·rw [if_pos c16] at H
        have LMc16 := Aside0.mk c16
        clear c16
        obtain ⟨y600, hy600⟩ : ∃ y_ : List ByteArray, y_ = (y597 ++ [(⟨#[107, 101, 121]⟩ : ByteArray)]) := ⟨_, rfl⟩
        replace H : (caravanlaw4_CmdPairs.j1 kj6 a2 (wrap64 (1 + (Int.tmod (wrap64 (a0)) 20))) (rdOf ByteArray.empty y593 (ji4)) x9_6 y600) = some r := by first | (rw [hy600]; with_reducible exact H) | (have H2_ := (Option.bind_some _ _).symm.trans H; rw [hy600]; with_reducible exact H2_) | (have H2_ := (Option.bind_some _ _).symm.trans H; with_reducible exact H2_) | with_reducible exact H | (rw [hy600]; exact H) | exact H
        have Ny600 := Aside0.mk hy600
        clear hy600
        have H' := Aside0.mk H
        clear H
        go_wp2_with (first | ((with_reducible refine gate_builtin (b := .append) (xs := #[.tmp 37, .tmp 38]) rfl ?_); at_builtin; refine Kd.R_append Kd.string (w0 := w) w.heap.size rfl (.tmp 37) (.tmp 38) 22 9 (.string ⟨#[]⟩) 16 rfl Try.underlying22 info9 rfl (by decide) (by omega) v598 y597 (⟨#[107, 101, 121]⟩ : ByteArray) [.string (⟨#[107, 101, 121]⟩ : ByteArray)] (fun _ => True) (fun _ => False) rfl rfl ?aP (fun _ hk => hk.elim) ?aF ?aO ?aB ?aS ?aL ?_; (case aP => exact rfl); (case aB => exact (qdb35_ HB.out)); (case aF => exact (fun _ _ => trivial)); (case aO => exact (q8524_ HO599.out)); (case aS => exact (below_size (qdb35_ HB.out))); (case aL => have := LMc16.out; omega); intro v601 w17 ho hb hg hat; rw [← Ny600.out] at ho; have n0_ := Aside0.mk (hb); have n1_ := Aside0.mk (ho); clear HB; clear HO599; have HB := n0_; have HO602 := n1_; clear n0_ n1_; clear ho hb hg hat))
        go_meet
        case rel => exact ⟨_, (y600), H', ⟨by have := HJ6.out; first | omega | exact Nat.le_refl _⟩, ⟨by (with_reducible repeat (first | apply Kd.R_alloc | apply Kd.R_drewN | apply Kd.R_drew)); exact HO602.out⟩, ⟨(qdb35_ HB.out)⟩⟩
       ·rw [if_neg c16] at H
        exact absurd H (by simp)
      ·rw [if_neg c15] at H
       have c15b0 : ((rdOf ByteArray.empty y593 (ji4)).toList == ([72, 83, 69, 84] : List UInt8)) = false := beq_eq_false_iff_ne.mpr c15
       have c15b1 : ((rdOf ByteArray.empty y593 (ji4)).toList != ([72, 83, 69, 84] : List UInt8)) = true := bne_iff_ne.mpr c15
       (first | rw [c15b0] | (simp only [i64_w, i32_w]; rw [c15b0]) | skip)
       have H' := Aside0.mk H
       clear H
       go_wp2
       go_meet
       case rel => exact ⟨_, (y597), H', ⟨by have := HJ6.out; first | omega | exact Nat.le_refl _⟩, ⟨by (with_reducible repeat (first | apply Kd.R_alloc | apply Kd.R_drewN | apply Kd.R_drew)); exact HO599.out⟩, ⟨(qdb35_ HB.out)⟩⟩
     case rest =>
      clear HC12
      try clear c1
      try clear p2
      try clear c4
      try clear c5
      try clear c5b0
      try clear p5
      try clear q5
      try clear hx5
      try clear c6
      try clear c6b0
      try clear p6
      try clear c11
      try clear c11b0
      try clear c15
      try clear c15b0
      try clear c15b1
      try clear c16
      try clear hx596_0
      try clear p2
      try clear p5
      try clear p596
      try clear p6
      try clear q5
      try clear q596
      obtain ⟨kq, x10_11, HA, HJ11, HO_10, HB⟩ := hcut
      cases kq with
      | zero => exact absurd HA.out (by simp [caravanlaw4_CmdPairs.j1])
      | succ kj11 =>
       have H := HA.out
       clear HA
       simp only [caravanlaw4_CmdPairs.j1] at H
       have H' := Aside0.mk H
       clear H
       go_wp2
       go_loopg [10, 11] kj11 (fun kq v10 v11 w' => ∃ (x10_3 : List ByteArray) (x11_3 : Int), v11 = .int .i64 x11_3 ∧ Aside0 (caravanlaw4_CmdPairs.l0 kq a2 (wrap64 (1 + (Int.tmod (wrap64 (a0)) 20))) (rdOf ByteArray.empty y593 (ji4)) x9_6 x10_3 x11_3 = some r) ∧ Aside0 (kq ≤ kj11) ∧ Aside0 (Kd.R Kd.string 9 w' w.heap.size (fun _ => True) v10 x10_3) ∧ Aside0 (Below w.heap.size w w'))
       case atStart => exact ⟨(x10_11), (0), (by first | rfl | (simp; done) | (simp [*]; done)), H', ⟨Nat.le_refl _⟩, ⟨by (with_reducible repeat (first | apply Kd.R_alloc | apply Kd.R_drewN | apply Kd.R_drew)); exact HO_10.out⟩, ⟨(qdb35_ HB.out)⟩⟩
       case round =>
        clear H'
        try clear c1
        try clear p2
        try clear c4
        try clear c5
        try clear c5b0
        try clear p5
        try clear q5
        try clear hx5
        try clear c6
        try clear c6b0
        try clear p6
        try clear c11
        try clear c11b0
        try clear c15
        try clear c15b0
        try clear c15b1
        try clear c16
        try clear hx596_0
        try clear p2
        try clear p5
        try clear p596
        try clear p6
        try clear q5
        try clear q596
        obtain ⟨x10_3, x11_3, rfl, HA, HK3, HO_10, HB⟩ := hrel
        cases gk with
        | zero => exact absurd HA.out (by simp [caravanlaw4_CmdPairs.l0])
        | succ k3 =>
         have H := HA.out
         clear HA
         simp only [caravanlaw4_CmdPairs.l0] at H
         by_cases c18 : x11_3 < (wrap64 (1 + (Int.tmod (wrap64 (a0)) 20)))
         ·rw [if_pos c18] at H
          have c18b0 : decide (x11_3 < (wrap64 (1 + (Int.tmod (wrap64 (a0)) 20)))) = true := decide_eq_true c18
          clear c18
          replace H := Option.bind_eq_some_iff.mp H
          obtain ⟨t603, A190, H⟩ := H
          replace H : (if 1 + t603.size ≤ 9223372036854775807 then (if x10_3.length < 8796093022208 then ((some (x10_3 ++ [(⟨#[107]⟩ : ByteArray) ++ t603] : List ByteArray)).bind fun y604 => (if x9_6 = true then (if y604.length < 8796093022208 then (caravanlaw4_CmdPairs.l0 k3 a2 (wrap64 (1 + (Int.tmod (wrap64 (a0)) 20))) (rdOf ByteArray.empty y593 (ji4)) x9_6 (y604 ++ [(⟨#[118]⟩ : ByteArray)]) (wrap64 (x11_3 + 1))) else (none)) else (caravanlaw4_CmdPairs.l0 k3 a2 (wrap64 (1 + (Int.tmod (wrap64 (a0)) 20))) (rdOf ByteArray.empty y593 (ji4)) x9_6 y604 (wrap64 (x11_3 + 1))))) else (none)) else (none)) = some r := H
          have A19 := Aside0.mk A190
          clear A190
          by_cases c20 : 1 + t603.size ≤ 9223372036854775807
          ·rw [if_pos c20] at H
           have c20b0 := eq_true c20
           have c20b1 : decide (1 + t603.size ≤ 9223372036854775807) = true := decide_eq_true c20
           try have c20b2 : (9223372036854775807 < 1 + t603.size) = False := eq_false (Nat.not_lt.2 c20)
           by_cases c21 : x10_3.length < 8796093022208
           ·rw [if_pos c21] at H
            have LMc21 := Aside0.mk c21
            clear c21
            obtain ⟨y604, hy604⟩ : ∃ y_ : List ByteArray, y_ = (x10_3 ++ [(⟨#[107]⟩ : ByteArray) ++ t603]) := ⟨_, rfl⟩
            replace H : (if x9_6 = true then (if y604.length < 8796093022208 then (caravanlaw4_CmdPairs.l0 k3 a2 (wrap64 (1 + (Int.tmod (wrap64 (a0)) 20))) (rdOf ByteArray.empty y593 (ji4)) x9_6 (y604 ++ [(⟨#[118]⟩ : ByteArray)]) (wrap64 (x11_3 + 1))) else (none)) else (caravanlaw4_CmdPairs.l0 k3 a2 (wrap64 (1 + (Int.tmod (wrap64 (a0)) 20))) (rdOf ByteArray.empty y593 (ji4)) x9_6 y604 (wrap64 (x11_3 + 1)))) = some r := by first | (rw [hy604]; with_reducible exact H) | (have H2_ := (Option.bind_some _ _).symm.trans H; rw [hy604]; with_reducible exact H2_) | (have H2_ := (Option.bind_some _ _).symm.trans H; with_reducible exact H2_) | with_reducible exact H | (rw [hy604]; exact H) | exact H
            have Ny604 := Aside0.mk hy604
            clear hy604
            by_cases c22 : x9_6 = true
            ·subst c22
             have H1 : (if y604.length < 8796093022208 then (caravanlaw4_CmdPairs.l0 k3 a2 (wrap64 (1 + (Int.tmod (wrap64 (a0)) 20))) (rdOf ByteArray.empty y593 (ji4)) true (y604 ++ [(⟨#[118]⟩ : ByteArray)]) (wrap64 (x11_3 + 1))) else (none)) = some r := by rw [if_pos rfl] at H; exact H
             clear H
             have H := H1
             clear H1
             by_cases c23 : y604.length < 8796093022208
             ·rw [if_pos c23] at H
              have LMc23 := Aside0.mk c23
              clear c23
              obtain ⟨y607, hy607⟩ : ∃ y_ : List ByteArray, y_ = (y604 ++ [(⟨#[118]⟩ : ByteArray)]) := ⟨_, rfl⟩
              replace H : (caravanlaw4_CmdPairs.l0 k3 a2 (wrap64 (1 + (Int.tmod (wrap64 (a0)) 20))) (rdOf ByteArray.empty y593 (ji4)) true y607 (wrap64 (x11_3 + 1))) = some r := by first | (rw [hy607]; with_reducible exact H) | (have H2_ := (Option.bind_some _ _).symm.trans H; rw [hy607]; with_reducible exact H2_) | (have H2_ := (Option.bind_some _ _).symm.trans H; with_reducible exact H2_) | with_reducible exact H | (rw [hy607]; exact H) | exact H
              have Ny607 := Aside0.mk hy607
              clear hy607
              have H' := Aside0.mk H
              clear H
              go_wp2_with (first | ((with_reducible refine gate_callee (f := 16) rfl ?_); refine goesL_ (some 47) rfl rfl Try.func16 (by kernel_rfl) rfl #[.int .i64 x11_3] rfl qM_ ?_; (with_reducible refine (caravanref1_Digits.calls k3 x11_3 t603 _ A19.out).mono ?_); rintro e w24 ⟨rfl, hb⟩; refine ⟨_, rfl, ?_⟩; have n0_ := Aside0.mk (Kd.R_below (q8524_ HO_10.out) hb); have n1_ := Aside0.mk (below_step (qdb35_ HB.out) hb); clear HO_10; clear HB; have HO_10 := n0_; have HB := n1_; clear n0_ n1_; (try clear hb); (try clear hb2); (try clear hk); (try clear hi)) | ((with_reducible refine gate_builtin (b := .append) (xs := #[.tmp 45, .tmp 49]) rfl ?_); at_builtin; refine Kd.R_append Kd.string (w0 := w) w.heap.size rfl (.tmp 45) (.tmp 49) 22 9 (.string ⟨#[]⟩) 16 rfl Try.underlying22 info9 rfl (by decide) (by omega) u10 x10_3 ((⟨#[107]⟩ : ByteArray) ++ t603) [.string ((⟨#[107]⟩ : ByteArray) ++ t603)] (fun _ => True) (fun _ => False) rfl rfl ?aP (fun _ hk => hk.elim) ?aF ?aO ?aB ?aS ?aL ?_; (case aP => exact rfl); (case aB => exact (qdb35_ HB.out)); (case aF => exact (fun _ _ => trivial)); (case aO => exact (q8524_ HO_10.out)); (case aS => exact (below_size (qdb35_ HB.out))); (case aL => have := LMc21.out; omega); intro v605 w25 ho hb hg hat; rw [← Ny604.out] at ho; have n0_ := Aside0.mk (hb); have n1_ := Aside0.mk (ho); clear HB; clear HO_10; have HB := n0_; have HO606 := n1_; clear n0_ n1_; clear ho hb hg hat) | ((with_reducible refine gate_builtin (b := .append) (xs := #[.tmp 52, .tmp 53]) rfl ?_); at_builtin; refine Kd.R_append Kd.string (w0 := w) w.heap.size rfl (.tmp 52) (.tmp 53) 22 9 (.string ⟨#[]⟩) 16 rfl Try.underlying22 info9 rfl (by decide) (by omega) v605 y604 (⟨#[118]⟩ : ByteArray) [.string (⟨#[118]⟩ : ByteArray)] (fun _ => True) (fun _ => False) rfl rfl ?aP (fun _ hk => hk.elim) ?aF ?aO ?aB ?aS ?aL ?_; (case aP => exact rfl); (case aB => exact (qdb35_ HB.out)); (case aF => exact (fun _ _ => trivial)); (case aO => exact (q8524_ HO606.out)); (case aS => exact (below_size (qdb35_ HB.out))); (case aL => have := LMc23.out; omega); intro v608 w26 ho hb hg hat; rw [← Ny607.out] at ho; have n0_ := Aside0.mk (hb); have n1_ := Aside0.mk (ho); clear HB; clear HO606; have HB := n0_; have HO609 := n1_; clear n0_ n1_; clear ho hb hg hat))
              go_roundg k3
              case measure => have := HJ6.out; have := HJ11.out; have := HK3.out; omega
              case rel => exact ⟨(y607), (wrap64 (x11_3 + 1)), (by first | rfl | (simp; done) | (simp [*]; done)), H', ⟨by have := HJ6.out; have := HJ11.out; have := HK3.out; omega⟩, ⟨by (with_reducible repeat (first | apply Kd.R_alloc | apply Kd.R_drewN | apply Kd.R_drew)); exact HO609.out⟩, ⟨(qdb35_ HB.out)⟩⟩
             ·rw [if_neg c23] at H
              exact absurd H (by simp)
            ·replace c22 := Bool.eq_false_iff.mpr c22
             subst c22
             have H1 : (caravanlaw4_CmdPairs.l0 k3 a2 (wrap64 (1 + (Int.tmod (wrap64 (a0)) 20))) (rdOf ByteArray.empty y593 (ji4)) false y604 (wrap64 (x11_3 + 1))) = some r := by rw [if_neg (show ¬ (false = true) by decide)] at H; exact H
             clear H
             have H := H1
             clear H1
             have H' := Aside0.mk H
             clear H
             go_wp2_with (first | ((with_reducible refine gate_callee (f := 16) rfl ?_); refine goesL_ (some 47) rfl rfl Try.func16 (by kernel_rfl) rfl #[.int .i64 x11_3] rfl qM_ ?_; (with_reducible refine (caravanref1_Digits.calls k3 x11_3 t603 _ A19.out).mono ?_); rintro e w27 ⟨rfl, hb⟩; refine ⟨_, rfl, ?_⟩; have n0_ := Aside0.mk (Kd.R_below (q8524_ HO_10.out) hb); have n1_ := Aside0.mk (below_step (qdb35_ HB.out) hb); clear HO_10; clear HB; have HO_10 := n0_; have HB := n1_; clear n0_ n1_; (try clear hb); (try clear hb2); (try clear hk); (try clear hi)) | ((with_reducible refine gate_builtin (b := .append) (xs := #[.tmp 45, .tmp 49]) rfl ?_); at_builtin; refine Kd.R_append Kd.string (w0 := w) w.heap.size rfl (.tmp 45) (.tmp 49) 22 9 (.string ⟨#[]⟩) 16 rfl Try.underlying22 info9 rfl (by decide) (by omega) u10 x10_3 ((⟨#[107]⟩ : ByteArray) ++ t603) [.string ((⟨#[107]⟩ : ByteArray) ++ t603)] (fun _ => True) (fun _ => False) rfl rfl ?aP (fun _ hk => hk.elim) ?aF ?aO ?aB ?aS ?aL ?_; (case aP => exact rfl); (case aB => exact (qdb35_ HB.out)); (case aF => exact (fun _ _ => trivial)); (case aO => exact (q8524_ HO_10.out)); (case aS => exact (below_size (qdb35_ HB.out))); (case aL => have := LMc21.out; omega); intro v605 w28 ho hb hg hat; rw [← Ny604.out] at ho; have n0_ := Aside0.mk (hb); have n1_ := Aside0.mk (ho); clear HB; clear HO_10; have HB := n0_; have HO606 := n1_; clear n0_ n1_; clear ho hb hg hat))
             go_roundg k3
             case measure => have := HJ6.out; have := HJ11.out; have := HK3.out; omega
             case rel => exact ⟨(y604), (wrap64 (x11_3 + 1)), (by first | rfl | (simp; done) | (simp [*]; done)), H', ⟨by have := HJ6.out; have := HJ11.out; have := HK3.out; omega⟩, ⟨by (with_reducible repeat (first | apply Kd.R_alloc | apply Kd.R_drewN | apply Kd.R_drew)); exact HO606.out⟩, ⟨(qdb35_ HB.out)⟩⟩
           ·rw [if_neg c21] at H
            exact absurd H (by simp)
          ·rw [if_neg c20] at H
           exact absurd H (by simp)
         ·rw [if_neg c18] at H
          have c18b0 : decide (x11_3 < (wrap64 (1 + (Int.tmod (wrap64 (a0)) 20)))) = false := decide_eq_false c18
          clear c18
          have HC29 := Aside0.mk H
          clear H
          go_upto_region 13 with (fail)
          go_cut [58] (fun v58 wc => ∃ (kq : Nat) (x58_28 : Bool), v58 = .bool x58_28 ∧ Aside0 (caravanlaw4_CmdPairs.j3 kq (wrap64 (1 + (Int.tmod (wrap64 (a0)) 20))) (rdOf ByteArray.empty y593 (ji4)) x10_3 x58_28 = some r) ∧ Aside0 (kq ≤ k3) ∧ Aside0 (Kd.R Kd.string 9 wc w.heap.size (fun _ => True) u10 x10_3) ∧ Aside0 (Below w.heap.size w wc))
          case first =>
           have H := HC29.out
           clear HC29
           by_cases c30 : a2 = true
           ·subst c30
            have H1 : (caravanlaw4_CmdPairs.j3 k3 (wrap64 (1 + (Int.tmod (wrap64 (a0)) 20))) (rdOf ByteArray.empty y593 (ji4)) x10_3 x9_6) = some r := by rw [if_pos rfl] at H; exact H
            clear H
            have H := H1
            clear H1
            have H' := Aside0.mk H
            clear H
            go_wp2
            go_meet
            case rel => exact ⟨_, (x9_6), (by first | rfl | (simp; done) | (simp [*]; done)), H', ⟨by have := HJ6.out; have := HJ11.out; have := HK3.out; first | omega | exact Nat.le_refl _⟩, ⟨by (with_reducible repeat (first | apply Kd.R_alloc | apply Kd.R_drewN | apply Kd.R_drew)); exact HO_10.out⟩, ⟨(qdb35_ HB.out)⟩⟩
           ·replace c30 := Bool.eq_false_iff.mpr c30
            subst c30
            have H1 : (caravanlaw4_CmdPairs.j3 k3 (wrap64 (1 + (Int.tmod (wrap64 (a0)) 20))) (rdOf ByteArray.empty y593 (ji4)) x10_3 false) = some r := by rw [if_neg (show ¬ (false = true) by decide)] at H; exact H
            clear H
            have H := H1
            clear H1
            have H' := Aside0.mk H
            clear H
            go_wp2
            go_meet
            case rel => exact ⟨_, (false), (by first | rfl | (simp; done) | (simp [*]; done)), H', ⟨by have := HJ6.out; have := HJ11.out; have := HK3.out; first | omega | exact Nat.le_refl _⟩, ⟨by (with_reducible repeat (first | apply Kd.R_alloc | apply Kd.R_drewN | apply Kd.R_drew)); exact HO_10.out⟩, ⟨(qdb35_ HB.out)⟩⟩
          case rest =>
           clear HC29
           try clear c1
           try clear c2
           try clear p2
           try clear c3
           try clear c4
           try clear c5
           try clear c5b0
           try clear p5
           try clear q5
           try clear hx5
           try clear c6
           try clear c6b0
           try clear p6
           try clear c11
           try clear c11b0
           try clear c15
           try clear c15b0
           try clear c15b1
           try clear c16
           try clear c18
           try clear c18b0
           try clear c20
           try clear c20b0
           try clear c20b1
           try clear c20b2
           try clear c21
           try clear c22
           try clear c23
           try clear c30
           try clear hx596_0
           try clear p2
           try clear p5
           try clear p596
           try clear p6
           try clear q5
           try clear q596
           obtain ⟨kq, x58_28, rfl, HA, HJ28, HO_10, HB⟩ := hcut
           cases kq with
           | zero => exact absurd HA.out (by simp [caravanlaw4_CmdPairs.j3])
           | succ kj28 =>
            have H := HA.out
            clear HA
            simp only [caravanlaw4_CmdPairs.j3] at H
            by_cases c31 : x58_28 = true
            ·subst c31
             have H1 : (if x10_3.length < 8796093022208 then ((cmd_Check.f (x10_3 ++ [(⟨#[120]⟩ : ByteArray)])).bind fun bt613 => (if bt613.2.2.2.2.2.2.2 = true then (some false) else ((caravanlaw4_awake.f).bind fun t622 => (some t622)))) else (none)) = some r := by rw [if_pos rfl] at H; exact H
             clear H
             have H := H1
             clear H1
             by_cases c32 : x10_3.length < 8796093022208
             ·rw [if_pos c32] at H
              have LMc32 := Aside0.mk c32
              clear c32
              obtain ⟨y610, hy610⟩ : ∃ y_ : List ByteArray, y_ = (x10_3 ++ [(⟨#[120]⟩ : ByteArray)]) := ⟨_, rfl⟩
              replace H : ((cmd_Check.f y610).bind fun bt613 => (if bt613.2.2.2.2.2.2.2 = true then (some false) else ((caravanlaw4_awake.f).bind fun t622 => (some t622)))) = some r := by first | (rw [hy610]; with_reducible exact H) | (have H2_ := (Option.bind_some _ _).symm.trans H; rw [hy610]; with_reducible exact H2_) | (have H2_ := (Option.bind_some _ _).symm.trans H; with_reducible exact H2_) | with_reducible exact H | (rw [hy610]; exact H) | exact H
              have Ny610 := Aside0.mk hy610
              clear hy610
              replace H := Option.bind_eq_some_iff.mp H
              obtain ⟨⟨t613, t614, t615, t616, t617, t618, t619, t620⟩, A330, H⟩ := H
              replace H : (if t620 = true then (some false) else ((caravanlaw4_awake.f).bind fun t622 => (some t622))) = some r := H
              have A33 := Aside0.mk A330
              clear A330
              by_cases c34 : t620 = true
              ·subst c34
               have H1 : (some false) = some r := by rw [if_pos rfl] at H; exact H
               clear H
               have H := H1
               clear H1
               subst hrt_; exact absurd H (by simp)
              ·replace c34 := Bool.eq_false_iff.mpr c34
               subst c34
               have H1 : ((caravanlaw4_awake.f).bind fun t622 => (some t622)) = some r := by rw [if_neg (show ¬ (false = true) by decide)] at H; exact H
               clear H
               have H := H1
               clear H1
               replace H := Option.bind_eq_some_iff.mp H
               obtain ⟨t622, A350, H⟩ := H
               replace H : (some t622) = some r := H
               have A35 := Aside0.mk A350
               clear A350
               obtain rfl := Option.some.inj H
               go_wp2_with (first | ((with_reducible refine gate_builtin (b := .append) (xs := #[.tmp 60, .tmp 61]) rfl ?_); at_builtin; refine Kd.R_append Kd.string (w0 := w) w.heap.size rfl (.tmp 60) (.tmp 61) 22 9 (.string ⟨#[]⟩) 16 rfl Try.underlying22 info9 rfl (by decide) (by omega) u10 x10_3 (⟨#[120]⟩ : ByteArray) [.string (⟨#[120]⟩ : ByteArray)] (fun _ => True) (fun _ => False) rfl rfl ?aP (fun _ hk => hk.elim) ?aF ?aO ?aB ?aS ?aL ?_; (case aP => exact rfl); (case aB => exact (qdb35_ HB.out)); (case aF => exact (fun _ _ => trivial)); (case aO => exact (q8524_ HO_10.out)); (case aS => exact (below_size (qdb35_ HB.out))); (case aL => have := LMc32.out; omega); intro v611 w36 ho hb hg hat; rw [← Ny610.out] at ho; have n0_ := Aside0.mk (hb); have n1_ := Aside0.mk (ho); clear HB; clear HO_10; have HB := n0_; have HO612 := n1_; clear n0_ n1_; clear ho hb hg hat; obtain ⟨Ao37, co37, eo37⟩ := Kd.R_slice HO612.out; subst eo37) | ((with_reducible refine gate_callee (f := 9) rfl ?_); refine goesL_ (some 63) rfl rfl Try.func9 (by kernel_rfl) rfl #[.slice Ao37 y610.length co37] rfl qM_ ?_; (with_reducible refine (cmd_Check.calls _ _ y610 t613 t614 t615 t616 t617 t618 t619 false _ ?side1 ?side2 A33.out).mono ?_); (case side1 => exact qC_ ((Kd.R_reads' HO612.out).2.2)); (case side2 => exact (Kd.R_reads' HO612.out).2.1); rintro e w38 ⟨rfl, hb⟩; refine ⟨_, rfl, ?_⟩; have n0_ := Aside0.mk (Kd.R_below (q8524_ HO612.out) hb); have n1_ := Aside0.mk (below_step (qdb35_ HB.out) hb); clear HO612; clear HB; have HO612 := n0_; have HB := n1_; clear n0_ n1_; (try clear hb); (try clear hb2); (try clear hk); (try clear hi)) | ((with_reducible refine gate_dst (N := 12) rfl ?_); refine box_event ?hg (N := 12) ?hd (cs := #[.string (⟨#[]⟩ : ByteArray), .int .i64 0, .int .i64 0, .int .i64 0, .int .i64 0, .int .i64 0, .bool false]) (t := 26) ?hr ?_; (case hd => rfl); (case hg => rfl); (case hr => first | (go_simp; done) | (go_simp; rfl)); intro gb621 hg w39 hbox hb; have n0_ := Aside0.mk (Kd.R_below (q8524_ HO612.out) hb); have n1_ := Aside0.mk (below_step (qdb35_ HB.out) hb); have n2_ := Aside0.mk (hbox); have n3_ := Aside0.mk ((by rw [hg]; exact (below_size (qdb35_ HB.out)) : w.heap.size ≤ gb621)); have n4_ := Aside0.mk ((by rw [hg]; exact (below_size (qdb35_ HB.out)) : w.heap.size ≤ gb621)); clear HO612; clear HB; have HO612 := n0_; have HB := n1_; have BK621 := n2_; have GW621 := n3_; have GE621 := n4_; clear n0_ n1_ n2_ n3_ n4_; clear hb hbox hg; have hcz40_0 : w39.cell? ⟨gb621, 0, none⟩ = some (.string (⟨#[]⟩ : ByteArray)) := (blk_cell BK621.out 0).trans rfl; have hcz40_1 : w39.cell? ⟨gb621, 1, none⟩ = some (.int .i64 0) := (blk_cell BK621.out 1).trans rfl; have hcz40_2 : w39.cell? ⟨gb621, 2, none⟩ = some (.int .i64 0) := (blk_cell BK621.out 2).trans rfl; have hcz40_3 : w39.cell? ⟨gb621, 3, none⟩ = some (.int .i64 0) := (blk_cell BK621.out 3).trans rfl; have hcz40_4 : w39.cell? ⟨gb621, 4, none⟩ = some (.int .i64 0) := (blk_cell BK621.out 4).trans rfl; have hcz40_5 : w39.cell? ⟨gb621, 5, none⟩ = some (.int .i64 0) := (blk_cell BK621.out 5).trans rfl; have hcz40_6 : w39.cell? ⟨gb621, 6, none⟩ = some (.bool false) := (blk_cell BK621.out 6).trans rfl; have hfz40_0 := blk_frozen BK621.out 0; have hfz40_1 := blk_frozen BK621.out 1; have hfz40_2 := blk_frozen BK621.out 2; have hfz40_3 := blk_frozen BK621.out 3; have hfz40_4 := blk_frozen BK621.out 4; have hfz40_5 := blk_frozen BK621.out 5; have hfz40_6 := blk_frozen BK621.out 6) | (go_at_call 8; (with_reducible refine (caravanlaw4_awake.calls  t622 _ A35.out).mono ?_); rintro e w41 ⟨rfl, hb⟩; have n0_ := Aside0.mk (Kd.R_below (by (with_reducible repeat (first | apply Kd.R_alloc | apply Kd.R_drewN | apply Kd.R_drew)); exact (Kd.R_mono (Kd.R_far (p := ⟨gb621, 6, none⟩) (Kd.R_far (p := ⟨gb621, 5, none⟩) (Kd.R_far (p := ⟨gb621, 4, none⟩) (Kd.R_far (p := ⟨gb621, 3, none⟩) (Kd.R_far (p := ⟨gb621, 2, none⟩) (Kd.R_far (p := ⟨gb621, 1, none⟩) (Kd.R_far (p := ⟨gb621, 0, none⟩) (Kd.R_types HO612.out BK621.out (by decide)) (fun _ hk => hk.2) (.string t613)) (fun _ hk => hk.2) (.int .i64 t614)) (fun _ hk => hk.2) (.int .i64 t615)) (fun _ hk => hk.2) (.int .i64 t616)) (fun _ hk => hk.2) (.int .i64 t617)) (fun _ hk => hk.2) (.int .i64 t618)) (fun _ hk => hk.2) (.bool t619)) (fun _ h_ => h_.1))) hb); have n1_ := Aside0.mk (blk_below (g := gb621) (o := .cells #[.string t613, .int .i64 t614, .int .i64 t615, .int .i64 t616, .int .i64 t617, .int .i64 t618, .bool t619] 26 (0, 0)) (by (with_reducible repeat (first | refine blk_drewN ?_ _ | refine blk_drew ?_ | refine blk_alloc ?_ _)); refine blk_put (cs := #[.string t613, .int .i64 t614, .int .i64 t615, .int .i64 t616, .int .i64 t617, .int .i64 t618, .bool false]) ?_ 6 _ rfl; (with_reducible repeat (first | refine blk_drewN ?_ _ | refine blk_drew ?_ | refine blk_alloc ?_ _)); refine blk_put (cs := #[.string t613, .int .i64 t614, .int .i64 t615, .int .i64 t616, .int .i64 t617, .int .i64 0, .bool false]) ?_ 5 _ rfl; (with_reducible repeat (first | refine blk_drewN ?_ _ | refine blk_drew ?_ | refine blk_alloc ?_ _)); refine blk_put (cs := #[.string t613, .int .i64 t614, .int .i64 t615, .int .i64 t616, .int .i64 0, .int .i64 0, .bool false]) ?_ 4 _ rfl; (with_reducible repeat (first | refine blk_drewN ?_ _ | refine blk_drew ?_ | refine blk_alloc ?_ _)); refine blk_put (cs := #[.string t613, .int .i64 t614, .int .i64 t615, .int .i64 0, .int .i64 0, .int .i64 0, .bool false]) ?_ 3 _ rfl; (with_reducible repeat (first | refine blk_drewN ?_ _ | refine blk_drew ?_ | refine blk_alloc ?_ _)); refine blk_put (cs := #[.string t613, .int .i64 t614, .int .i64 0, .int .i64 0, .int .i64 0, .int .i64 0, .bool false]) ?_ 2 _ rfl; (with_reducible repeat (first | refine blk_drewN ?_ _ | refine blk_drew ?_ | refine blk_alloc ?_ _)); refine blk_put (cs := #[.string t613, .int .i64 0, .int .i64 0, .int .i64 0, .int .i64 0, .int .i64 0, .bool false]) ?_ 1 _ rfl; (with_reducible repeat (first | refine blk_drewN ?_ _ | refine blk_drew ?_ | refine blk_alloc ?_ _)); refine blk_put (cs := #[.string (⟨#[]⟩ : ByteArray), .int .i64 0, .int .i64 0, .int .i64 0, .int .i64 0, .int .i64 0, .bool false]) ?_ 0 _ rfl; (with_reducible repeat (first | refine blk_drewN ?_ _ | refine blk_drew ?_ | refine blk_alloc ?_ _)); exact BK621.out) hb); have n2_ := Aside0.mk (below_step (qed14_ HB.out GE621.out) hb); clear HO612; clear BK621; clear HB; have HO612 := n0_; have BK621 := n1_; have HB := n2_; clear n0_ n1_ n2_; (try clear hb); (try clear hb2); (try clear hk); (try clear hi)))
               go_ret
               exact ⟨by first | rfl | (simp [errW_none, errW_some] <;> rfl) | (simp only [← hji4]; first | rfl | (simp [errW_none, errW_some] <;> rfl)) | (simp [*, errW_none, errW_some] <;> rfl), (qed14_ HB.out GE621.out)⟩
             ·rw [if_neg c32] at H
              exact absurd H (by simp)
            ·replace c31 := Bool.eq_false_iff.mpr c31
             subst c31
             have H1 : ((cmd_Keys.f x10_3).bind fun t623 => (if (rdOf ByteArray.empty y593 (ji4)).toList = ([72, 83, 69, 84] : List UInt8) then (if (t623.length : Int) = 1 then (if 0 < (t623.length : Int) then (if (rdOf ByteArray.empty t623 0).toList = ([107, 101, 121] : List UInt8) then ((caravanlaw4_awake.f).bind fun t627 => (some t627)) else (some false)) else (none)) else (some false)) else (if (t623.length : Int) = (wrap64 (1 + (Int.tmod (wrap64 (a0)) 20))) then (caravanlaw4_CmdPairs.l1 kj28 (wrap64 (1 + (Int.tmod (wrap64 (a0)) 20))) t623 0) else (some false)))) = some r := by rw [if_neg (show ¬ (false = true) by decide)] at H; exact H
             clear H
             have H := H1
             clear H1
             replace H := Option.bind_eq_some_iff.mp H
             obtain ⟨t623, A420, H⟩ := H
             replace H : (if (rdOf ByteArray.empty y593 (ji4)).toList = ([72, 83, 69, 84] : List UInt8) then (if (t623.length : Int) = 1 then (if 0 < (t623.length : Int) then (if (rdOf ByteArray.empty t623 0).toList = ([107, 101, 121] : List UInt8) then ((caravanlaw4_awake.f).bind fun t627 => (some t627)) else (some false)) else (none)) else (some false)) else (if (t623.length : Int) = (wrap64 (1 + (Int.tmod (wrap64 (a0)) 20))) then (caravanlaw4_CmdPairs.l1 kj28 (wrap64 (1 + (Int.tmod (wrap64 (a0)) 20))) t623 0) else (some false))) = some r := H
             have A42 := Aside0.mk A420
             clear A420
             by_cases c43 : (rdOf ByteArray.empty y593 (ji4)).toList = ([72, 83, 69, 84] : List UInt8)
             ·rw [if_pos c43] at H
              have c43b0 : ((rdOf ByteArray.empty y593 (ji4)).toList == ([72, 83, 69, 84] : List UInt8)) = true := beq_iff_eq.mpr c43
              have c43b1 : ((rdOf ByteArray.empty y593 (ji4)).toList != ([72, 83, 69, 84] : List UInt8)) = false := bne_eq_false_iff_eq.mpr c43
              clear c43
              by_cases c44 : (t623.length : Int) = 1
              ·rw [if_pos c44] at H
               have c44b0 : ((t623.length : Int) == 1) = true := beq_iff_eq.mpr c44
               have c44b1 : ((t623.length : Int) != 1) = false := bne_eq_false_iff_eq.mpr c44
               clear c44
               by_cases c45 : 0 < (t623.length : Int)
               ·rw [if_pos c45] at H
                have c45b0 : decide (0 < (t623.length : Int)) = true := decide_eq_true c45
                have c45b1 : decide (0 < t623.length) = true := decide_eq_true (by omega)
                clear c45
                by_cases c46 : (rdOf ByteArray.empty t623 0).toList = ([107, 101, 121] : List UInt8)
                ·rw [if_pos c46] at H
                 have c46b0 : ((rdOf ByteArray.empty t623 0).toList == ([107, 101, 121] : List UInt8)) = true := beq_iff_eq.mpr c46
                 have c46b1 : ((rdOf ByteArray.empty t623 0).toList != ([107, 101, 121] : List UInt8)) = false := bne_eq_false_iff_eq.mpr c46
                 clear c46
                 replace H := Option.bind_eq_some_iff.mp H
                 obtain ⟨t627, A470, H⟩ := H
                 replace H : (some t627) = some r := H
                 have A47 := Aside0.mk A470
                 clear A470
                 obtain rfl := Option.some.inj H
                 obtain ⟨Ao48, co48, eo48⟩ := Kd.R_slice HO_10.out
                 subst eo48
                 go_wp2_with (first | ((with_reducible refine gate_callee (f := 14) rfl ?_); refine goesL_ (some 72) rfl rfl Try.func14 (by kernel_rfl) rfl #[.slice Ao48 x10_3.length co48] rfl qM_ ?_; (with_reducible refine (cmd_Keys.calls _ _ x10_3 t623 _ ?side1 ?side2 A42.out).mono ?_); (case side1 => exact qC_ ((Kd.R_reads' HO_10.out).2.2)); (case side2 => exact (Kd.R_reads' HO_10.out).2.1); rintro e w49 ⟨v624, rfl, ho0, hb⟩; refine ⟨_, rfl, ?_⟩; have n0_ := Aside0.mk (Kd.R_elder' (q8524_ HO_10.out) (Kd.R_base ho0) hb); have n1_ := Aside0.mk (Kd.R_lower (Kd.R_new' ho0 (Kd.R_lt (q8524_ HO_10.out))) (below_size (qdb35_ HB.out))); have n2_ := Aside0.mk (below_step (qdb35_ HB.out) hb); clear HO_10; clear HB; have HO_10 := n0_; have HO625 := n1_; have HB := n2_; clear n0_ n1_ n2_; (try clear hb); (try clear hb2); (try clear hk); (try clear hi); (try clear ho0); obtain ⟨Ao50, co50, eo50⟩ := Kd.R_slice HO625.out; subst eo50; have p626 : 0 ≤ (0 : Int) := (by omega); have q626 : 0 < (t623.length : Int) := of_decide_eq_true (by first | (with_reducible assumption) | assumption); obtain ⟨ad626, e626, hx626_0⟩ := Kd.at_string (Kd.R_reads' HO625.out).2.2 0 p626 q626; cases e626; have qi626 : (0 < t623.length) = True := eq_true (by omega); (try rw [show ((0 : Int)).toNat = 0 from rfl] at hx626_0); (try rw [Addr.add_zero'] at hx626_0); replace p626 := eq_true p626; replace q626 := eq_true q626) | (go_at_call 8; (with_reducible refine (caravanlaw4_awake.calls  t627 _ A47.out).mono ?_); rintro e w51 ⟨rfl, hb⟩; have n0_ := Aside0.mk (Kd.R_below (q8524_ HO_10.out) hb); have n1_ := Aside0.mk (Kd.R_below (q8524_ HO625.out) hb); have n2_ := Aside0.mk (below_step (qdb35_ HB.out) hb); clear HO_10; clear HO625; clear HB; have HO_10 := n0_; have HO625 := n1_; have HB := n2_; clear n0_ n1_ n2_; (try clear hb); (try clear hb2); (try clear hk); (try clear hi)))
                 go_ret
                 exact ⟨by first | rfl | (simp [errW_none, errW_some] <;> rfl) | (simp only [← hji4]; first | rfl | (simp [errW_none, errW_some] <;> rfl)) | (simp [*, errW_none, errW_some] <;> rfl), (qdb35_ HB.out)⟩
                ·rw [if_neg c46] at H
                 have c46b0 : ((rdOf ByteArray.empty t623 0).toList == ([107, 101, 121] : List UInt8)) = false := beq_eq_false_iff_ne.mpr c46
                 have c46b1 : ((rdOf ByteArray.empty t623 0).toList != ([107, 101, 121] : List UInt8)) = true := bne_iff_ne.mpr c46
                 subst hrt_; exact absurd H (by simp)
               ·rw [if_neg c45] at H
                exact absurd H (by simp)
              ·rw [if_neg c44] at H
               have c44b0 : ((t623.length : Int) == 1) = false := beq_eq_false_iff_ne.mpr c44
               have c44b1 : ((t623.length : Int) != 1) = true := bne_iff_ne.mpr c44
               subst hrt_; exact absurd H (by simp)
             ·rw [if_neg c43] at H
              have c43b0 : ((rdOf ByteArray.empty y593 (ji4)).toList == ([72, 83, 69, 84] : List UInt8)) = false := beq_eq_false_iff_ne.mpr c43
              have c43b1 : ((rdOf ByteArray.empty y593 (ji4)).toList != ([72, 83, 69, 84] : List UInt8)) = true := bne_iff_ne.mpr c43
              by_cases c52 : (t623.length : Int) = (wrap64 (1 + (Int.tmod (wrap64 (a0)) 20)))
              ·rw [if_pos c52] at H
               have c52b0 : ((t623.length : Int) == (wrap64 (1 + (Int.tmod (wrap64 (a0)) 20)))) = true := beq_iff_eq.mpr c52
               have c52b1 : ((t623.length : Int) != (wrap64 (1 + (Int.tmod (wrap64 (a0)) 20)))) = false := bne_eq_false_iff_eq.mpr c52
               clear c52
               have H' := Aside0.mk H
               clear H
               obtain ⟨Ao53, co53, eo53⟩ := Kd.R_slice HO_10.out
               subst eo53
               go_wp2_with (first | ((with_reducible refine gate_callee (f := 14) rfl ?_); refine goesL_ (some 72) rfl rfl Try.func14 (by kernel_rfl) rfl #[.slice Ao53 x10_3.length co53] rfl qM_ ?_; (with_reducible refine (cmd_Keys.calls _ _ x10_3 t623 _ ?side1 ?side2 A42.out).mono ?_); (case side1 => exact qC_ ((Kd.R_reads' HO_10.out).2.2)); (case side2 => exact (Kd.R_reads' HO_10.out).2.1); rintro e w54 ⟨v624, rfl, ho0, hb⟩; refine ⟨_, rfl, ?_⟩; have n0_ := Aside0.mk (Kd.R_elder' (q8524_ HO_10.out) (Kd.R_base ho0) hb); have n1_ := Aside0.mk (Kd.R_lower (Kd.R_new' ho0 (Kd.R_lt (q8524_ HO_10.out))) (below_size (qdb35_ HB.out))); have n2_ := Aside0.mk (below_step (qdb35_ HB.out) hb); clear HO_10; clear HB; have HO_10 := n0_; have HO625 := n1_; have HB := n2_; clear n0_ n1_ n2_; (try clear hb); (try clear hb2); (try clear hk); (try clear hi); (try clear ho0); obtain ⟨Ao55, co55, eo55⟩ := Kd.R_slice HO625.out; subst eo55))
               go_loopg [15] kj28 (fun kq v15 w' => ∃ (x15_5 : Int), v15 = .int .i64 x15_5 ∧ Aside0 (caravanlaw4_CmdPairs.l1 kq (wrap64 (1 + (Int.tmod (wrap64 (a0)) 20))) t623 x15_5 = some r) ∧ Aside0 (kq ≤ kj28) ∧ Aside0 (Kd.R Kd.string 9 w' w.heap.size (fun _ => True) (.slice Ao55 t623.length co55) t623) ∧ Aside0 (Below w.heap.size w w'))
               case atStart => exact ⟨(0), (by first | rfl | (simp; done) | (simp [*]; done)), H', ⟨Nat.le_refl _⟩, ⟨by (with_reducible repeat (first | apply Kd.R_alloc | apply Kd.R_drewN | apply Kd.R_drew)); exact Kd.R_mono HO625.out (fun _ hk => trivial)⟩, ⟨(qdb35_ HB.out)⟩⟩
               case round =>
                clear H'
                try clear c1
                try clear c2
                try clear p2
                try clear c3
                try clear c4
                try clear c5
                try clear c5b0
                try clear p5
                try clear q5
                try clear hx5
                try clear c6
                try clear c6b0
                try clear p6
                try clear q6
                try clear hx6
                try clear qi6
                try clear c9
                try clear c11
                try clear c11b0
                try clear c14
                try clear c15
                try clear c15b0
                try clear c15b1
                try clear c16
                try clear c18
                try clear c18b0
                try clear c20
                try clear c20b0
                try clear c20b1
                try clear c20b2
                try clear c21
                try clear c22
                try clear c23
                try clear c30
                try clear c31
                try clear c32
                try clear c34
                try clear c43
                try clear c43b0
                try clear c43b1
                try clear c44
                try clear c44b0
                try clear c44b1
                try clear c45
                try clear c45b0
                try clear c45b1
                try clear c46
                try clear c46b0
                try clear c46b1
                try clear c52
                try clear c52b0
                try clear c52b1
                try clear hcz40_0
                try clear hcz40_1
                try clear hcz40_2
                try clear hcz40_3
                try clear hcz40_4
                try clear hcz40_5
                try clear hcz40_6
                try clear hfz40_0
                try clear hfz40_1
                try clear hfz40_2
                try clear hfz40_3
                try clear hfz40_4
                try clear hfz40_5
                try clear hfz40_6
                try clear hx596_0
                try clear hx626_0
                try clear p2
                try clear p5
                try clear p596
                try clear p6
                try clear p626
                try clear q5
                try clear q596
                try clear q626
                obtain ⟨x15_5, rfl, HA, HK5, HO_14, HB⟩ := hrel
                cases gk with
                | zero => exact absurd HA.out (by simp [caravanlaw4_CmdPairs.l1])
                | succ k5 =>
                 have H := HA.out
                 clear HA
                 simp only [caravanlaw4_CmdPairs.l1] at H
                 by_cases c56 : x15_5 < (wrap64 (1 + (Int.tmod (wrap64 (a0)) 20)))
                 ·rw [if_pos c56] at H
                  have c56b0 : decide (x15_5 < (wrap64 (1 + (Int.tmod (wrap64 (a0)) 20)))) = true := decide_eq_true c56
                  clear c56
                  by_cases c57 : 0 ≤ x15_5
                  ·rw [if_pos c57] at H
                   have c57b0 : decide (0 ≤ x15_5) = true := decide_eq_true c57
                   clear c57
                   by_cases c58 : x15_5 < (t623.length : Int)
                   ·rw [if_pos c58] at H
                    have c58b0 : decide (x15_5 < (t623.length : Int)) = true := decide_eq_true c58
                    clear c58
                    replace H := Option.bind_eq_some_iff.mp H
                    obtain ⟨t629, A590, H⟩ := H
                    replace H : (if 1 + t629.size ≤ 9223372036854775807 then (if (rdOf ByteArray.empty t623 x15_5).toList = ((⟨#[107]⟩ : ByteArray) ++ t629).toList then (caravanlaw4_CmdPairs.l1 k5 (wrap64 (1 + (Int.tmod (wrap64 (a0)) 20))) t623 (wrap64 (x15_5 + 1))) else (some false)) else (none)) = some r := H
                    have A59 := Aside0.mk A590
                    clear A590
                    by_cases c60 : 1 + t629.size ≤ 9223372036854775807
                    ·rw [if_pos c60] at H
                     have c60b0 := eq_true c60
                     have c60b1 : decide (1 + t629.size ≤ 9223372036854775807) = true := decide_eq_true c60
                     try have c60b2 : (9223372036854775807 < 1 + t629.size) = False := eq_false (Nat.not_lt.2 c60)
                     by_cases c61 : (rdOf ByteArray.empty t623 x15_5).toList = ((⟨#[107]⟩ : ByteArray) ++ t629).toList
                     ·rw [if_pos c61] at H
                      have c61b0 : ((rdOf ByteArray.empty t623 x15_5).toList == ((⟨#[107]⟩ : ByteArray) ++ t629).toList) = true := beq_iff_eq.mpr c61
                      have c61b1 : ((rdOf ByteArray.empty t623 x15_5).toList != ((⟨#[107]⟩ : ByteArray) ++ t629).toList) = false := bne_eq_false_iff_eq.mpr c61
                      clear c61
                      have H' := Aside0.mk H
                      clear H
                      try go_wp2
                      have n0_ := Aside0.mk (Kd.R_drew HO_14.out)
                      have n1_ := Aside0.mk (below_drew1 HB.out)
                      clear HO_14
                      clear HB
                      have HO_14 := n0_
                      have HB := n1_
                      clear n0_ n1_
                      have p628 : 0 ≤ (x15_5 : Int) := of_decide_eq_true (by first | (with_reducible assumption) | assumption)
                      have q628 : x15_5 < (t623.length : Int) := of_decide_eq_true (by first | (with_reducible assumption) | assumption)
                      obtain ⟨ad628, e628, hx628_0⟩ := Kd.at_string (Kd.R_reads' HO_14.out).2.2 x15_5 p628 q628
                      cases e628
                      replace p628 := eq_true p628
                      replace q628 := eq_true q628
                      refine start_ (n := 8) (S := fun w' => w'.cell? (ad628.add (x15_5).toNat) = some (.string (rdOf ByteArray.empty t623 x15_5))) (ds := []) (ml_ 8 0) (by kernel_rfl) rfl rfl (hx628_0) (fun hHeld => ?_); refine with_tabW caravanlaw4_CmdPairs.tab24 caravanlaw4_CmdPairs.bits24 (fun HT_ HW_ => ?_)
                      generalize wr.drew = w62 at HO_14 HB hx628_0 hHeld ⊢
                      refine pA_ 0 96 (ml_ 8 1) rfl rfl HT_.out ?_
                      refine pA_ 1 97 (ml_ 8 3) rfl rfl HT_.out ?_
                      refine pA_ 2 98 (ml_ 8 7) rfl rfl HT_.out ?_
                      refine pA_ 4 100 (ml_ 8 23) rfl rfl HT_.out ?_
                      refine take_ (i := 3) (N := some 99) (v := ?_) (a' := ?_) (ml_ 8 31) rfl rfl (take_ofW HT_.out HW_.out (by kernel_rfl)) (fun _ _ _ h => h) (Or.inl ⟨by rfl, ?_⟩) hHeld ?_ ?_
                      rotate_left
                      ·intro w' s0
                       go_simp
                       with_reducible rfl
                      rotate_left
                      ·simp only [Act.put, List.setIfInBounds_toArray, List.set_cons_zero, List.set_cons_succ, i64_w, i32_w]
                       rfl
                      refine one_ (i := 5) (N := some 101) (ml_ 8 63) rfl rfl (one_of HT_.out (by kernel_rfl)) (by decide) (fun K hK => ?_)
                      refine goes_ Try.func16 (by kernel_rfl) rfl #[.int .i64 x15_5] (by rfl) rfl rfl qM_ ?_
                      with_reducible refine (caravanref1_Digits.calls k5 x15_5 t629 _ A59.out).mono ?_
                      rintro e w63 ⟨rfl, hb⟩
                      have HS0_ := (hb.cell (World.block_lt_of_cell? _ _ (hHeld))).trans (hHeld)
                      refine ⟨_, rfl, ?_⟩
                      have n0_ := Aside0.mk (Kd.R_below (q8524_ HO_14.out) hb)
                      have n1_ := Aside0.mk (below_step (qdb35_ HB.out) hb)
                      clear HO_14
                      clear HB
                      have HO_14 := n0_
                      have HB := n1_
                      clear n0_ n1_
                      (try clear hb)
                      (try clear hb2)
                      (try clear hk)
                      (try clear hi)
                      refine hK.out _ _ (HS0_) (fun hHeld => ?_)
                      clear hK K
                      refine nA_ 101 ?_
                      refine pA_ 6 102 (ml_ 8 127) rfl rfl HT_.out ?_
                      refine pA_ 7 103 (ml_ 8 255) rfl rfl HT_.out ?_
                      refine done_ (done_of HT_.out (by kernel_rfl)) ?_
                      try go_wp2
                      go_roundg k5
                      case measure => have := HJ6.out; have := HJ11.out; have := HK3.out; have := HJ28.out; have := HK5.out; omega
                      case rel => exact ⟨(wrap64 (x15_5 + 1)), (by first | rfl | (simp; done) | (simp [*]; done)), H', ⟨by have := HJ6.out; have := HJ11.out; have := HK3.out; have := HJ28.out; have := HK5.out; omega⟩, ⟨by (with_reducible repeat (first | apply Kd.R_alloc | apply Kd.R_drewN | apply Kd.R_drew)); exact HO_14.out⟩, ⟨(qdb35_ HB.out)⟩⟩
                     ·rw [if_neg c61] at H
                      have c61b0 : ((rdOf ByteArray.empty t623 x15_5).toList == ((⟨#[107]⟩ : ByteArray) ++ t629).toList) = false := beq_eq_false_iff_ne.mpr c61
                      have c61b1 : ((rdOf ByteArray.empty t623 x15_5).toList != ((⟨#[107]⟩ : ByteArray) ++ t629).toList) = true := bne_iff_ne.mpr c61
                      subst hrt_; exact absurd H (by simp)
                    ·rw [if_neg c60] at H
                     exact absurd H (by simp)
                   ·rw [if_neg c58] at H
                    exact absurd H (by simp)
                  ·rw [if_neg c57] at H
                   exact absurd H (by simp)
                 ·rw [if_neg c56] at H
                  have c56b0 : decide (x15_5 < (wrap64 (1 + (Int.tmod (wrap64 (a0)) 20)))) = false := decide_eq_false c56
                  clear c56
                  replace H := Option.bind_eq_some_iff.mp H
                  obtain ⟨t630, A640, H⟩ := H
                  replace H : (some t630) = some r := H
                  have A64 := Aside0.mk A640
                  clear A640
                  obtain rfl := Option.some.inj H
                  go_wp2_with (first | ((with_reducible refine gate_callee (f := 8) rfl ?_); refine goesL_ (some 104) rfl rfl Try.func8 (by kernel_rfl) rfl #[] rfl qM_ ?_; (with_reducible refine (caravanlaw4_awake.calls  t630 _ A64.out).mono ?_); rintro e w65 ⟨rfl, hb⟩; refine ⟨_, rfl, ?_⟩; have n0_ := Aside0.mk (Kd.R_below (q8524_ HO_14.out) hb); have n1_ := Aside0.mk (below_step (qdb35_ HB.out) hb); clear HO_14; clear HB; have HO_14 := n0_; have HB := n1_; clear n0_ n1_; (try clear hb); (try clear hb2); (try clear hk); (try clear hi)))
                  go_ret
                  exact ⟨by first | rfl | (simp [errW_none, errW_some] <;> rfl) | (simp only [← hji4]; first | rfl | (simp [errW_none, errW_some] <;> rfl)) | (simp [*, errW_none, errW_some] <;> rfl), (qdb35_ HB.out)⟩
              ·rw [if_neg c52] at H
               have c52b0 : ((t623.length : Int) == (wrap64 (1 + (Int.tmod (wrap64 (a0)) 20)))) = false := beq_eq_false_iff_ne.mpr c52
               have c52b1 : ((t623.length : Int) != (wrap64 (1 + (Int.tmod (wrap64 (a0)) 20)))) = true := bne_iff_ne.mpr c52
               subst hrt_; exact absurd H (by simp)
  ·rw [if_neg c6] at H
   exact absurd H (by simp)
 ·rw [if_neg c5] at H
  exact absurd H (by simp)

/-- THE ONE PURE STATEMENT of caravanlaw4_CmdPairs: yours. -/
def caravanlaw4_CmdPairs.Pure : Prop := ∀ (a0 : Int) (a1 : Int) (a2 : Bool), (Lit.int .u8 a0).wf = true → (Lit.int .u8 a1).wf = true → ∃ k, caravanlaw4_CmdPairs.f k a0 a1 a2 = some true
theorem caravanlaw4_CmdPairs.walk (P : caravanlaw4_CmdPairs.Pure) (a0 : Int) (a1 : Int) (a2 : Bool) (w : World) (w0 : (Lit.int .u8 a0).wf = true) (w1 : (Lit.int .u8 a1).wf = true) :
 Calls Try.prog 4 #[.int .u8 a0, .int .u8 a1, .bool a2] w fun e w' => e = .returned (.bool true) ∧ Below w.heap.size w w' := by
 obtain ⟨k, h⟩ := P a0 a1 a2 w0 w1
 refine (caravanlaw4_CmdPairs.calls k a0 a1 a2 true w h rfl).mono ?_
 rintro e w' ⟨rfl, hd⟩
 exact ⟨rfl, hd⟩

end Go.Proofs.Ytjdpmjpfhcdcfaa.G
