/- What functions of the translation come to, and their calls' proofs; by a program of mine over the kit's print, with contracts given by hand beside. Conditions: where a plain function tells none, nothing is said. -/
import Derived.Test.YtjdpmjpfhcdcfaaG0
import Derived.Test.YtjdpmjpfhcdcfaaG2
import Derived.Test.YtjdpmjpfhcdcfaaG6
import Derived.Test.YtjdpmjpfhcdcfaaGCheck
import Derived.Test.YtjdpmjpfhcdcfaaGFind
import Derived.Test.YtjdpmjpfhcdcfaaGKeys
import Derived.Test.YtjdpmjpfhcdcfaaGNames
namespace Go.Proofs.Ytjdpmjpfhcdcfaa.G
open Go.RowKit Go.Proofs.YtjdpmjpfhcdcfaaW.PrintWords Go.Proofs.YtjdpmjpfhcdcfaaW.PrintLast Go.Proofs.YtjdpmjpfhcdcfaaW.PrintMore
attribute [local go_sem] max2_int min2_int max_two min_two max_three min_three max_four min_four   -- for this text's walks alone
set_option linter.unusedVariables false
set_option linter.unusedSimpArgs false

/-! ### caravanlaw4_CmdKeys: function 6 -/
mutual
def caravanlaw4_CmdKeys.j0 : Nat → Int → Bool → ByteArray → Int → Int → Int → Int → Int → Bool → Option (Bool)
 | 0, _, _, _, _, _, _, _, _, _ => none
 | k + 1, x1, x49, x309000, x309001, x309002, x309003, x309004, x309005, x309006 => if x49 = true then (some false) else (caravanlaw4_CmdKeys.l0 k x1 (([x309000] : List ByteArray)) x309000 x309001 x309002 x309003 x309004 x309005 x309006)
def caravanlaw4_CmdKeys.l0 : Nat → Int → List ByteArray → ByteArray → Int → Int → Int → Int → Int → Bool → Option (Bool)
 | 0, _, _, _, _, _, _, _, _, _ => none
 | k + 1, x1, x8, x309000, x309001, x309002, x309003, x309004, x309005, x309006 => if (x8.length : Int) < x309001 then ((caravanref1_Digits.f k (x8.length : Int)).bind fun t312 => (if 1 + t312.size ≤ 9223372036854775807 then (if x8.length < 8796093022208 then (caravanlaw4_CmdKeys.l0 k x1 (x8 ++ [(⟨#[107]⟩ : ByteArray) ++ t312]) x309000 x309001 x309002 x309003 x309004 x309005 x309006) else (none)) else (none))) else ((cmd_Check.f x8).bind fun bt316 => (if 0 ≤ (wrap64 ((x8.length : Int) - 1)) then (if (wrap64 ((x8.length : Int) - 1)) ≤ (x8.length : Int) then ((cmd_Check.f (x8.take ((wrap64 ((x8.length : Int) - 1)) : Int).toNat)).bind fun bt329 => ((cmd_Keys.f x8).bind fun t338 => (if bt316.2.2.2.2.2.2.2 = true then (if bt329.2.2.2.2.2.2.2 = true then (caravanlaw4_CmdKeys.j2 k x1 x8 true x309000 x309001 x309002 x309003 x309004 x309005 x309006) else (if ((x309003 == 0) != ((t338.length : Int) == 0)) = true then (caravanlaw4_CmdKeys.j2 k x1 x8 true x309000 x309001 x309002 x309003 x309004 x309005 x309006) else (if x309003 > 0 then (if 0 < (t338.length : Int) then (caravanlaw4_CmdKeys.j2 k x1 x8 ((rdOf ByteArray.empty t338 0).toList != ([107, 49] : List UInt8)) x309000 x309001 x309002 x309003 x309004 x309005 x309006) else (none)) else (caravanlaw4_CmdKeys.j2 k x1 x8 false x309000 x309001 x309002 x309003 x309004 x309005 x309006)))) else (caravanlaw4_CmdKeys.j2 k x1 x8 true x309000 x309001 x309002 x309003 x309004 x309005 x309006)))) else (none)) else (none)))
def caravanlaw4_CmdKeys.j2 : Nat → Int → List ByteArray → Bool → ByteArray → Int → Int → Int → Int → Int → Bool → Option (Bool)
 | 0, _, _, _, _, _, _, _, _, _, _ => none
 | k + 1, x1, x8, x105, x309000, x309001, x309002, x309003, x309004, x309005, x309006 => if x105 = true then (some false) else (if x309003 > 0 then ((some (([] : List ByteArray) : List ByteArray)).bind fun y342 => (if y342.length + x8.length < 8796093022208 then ((some (y342 ++ x8 : List ByteArray)).bind fun y345 => (if 1 < (y345.length : Int) then ((some (y345.set (1 : Int).toNat (⟨#[48, 49, 50, 51, 52, 53, 54, 55, 56, 57, 48, 49, 50, 51, 52, 53, 54, 55, 56, 57, 48, 49, 50, 51, 52, 53, 54, 55, 56, 57, 48, 49, 50, 51, 52, 53, 54, 55, 56, 57, 120]⟩ : ByteArray) : List ByteArray)).bind fun y348 => ((cmd_Check.f y348).bind fun bt349 => (if bt349.2.2.2.2.2.2.2 = true then (some false) else ((cmd_Keys.f y348).bind fun t358 => (if (t358.length : Int) = 0 then (caravanlaw4_CmdKeys.j3 k x1 x8 x309000 x309001 x309002 x309003 x309004 x309005 x309006) else (some false)))))) else (none))) else (none))) else (caravanlaw4_CmdKeys.j3 k x1 x8 x309000 x309001 x309002 x309003 x309004 x309005 x309006))
def caravanlaw4_CmdKeys.j3 : Nat → Int → List ByteArray → ByteArray → Int → Int → Int → Int → Int → Bool → Option (Bool)
 | 0, _, _, _, _, _, _, _, _, _ => none
 | k + 1, x1, x8, x309000, x309001, x309002, x309003, x309004, x309005, x309006 => if x309002 > 0 then ((some (([] : List ByteArray) : List ByteArray)).bind fun y361 => (if y361.length + x8.length < 8796093022208 then ((some (y361 ++ x8 : List ByteArray)).bind fun y364 => (if y364.length < 8796093022208 then ((cmd_Check.f (y364 ++ [(⟨#[120]⟩ : ByteArray)])).bind fun bt370 => (if ((!bt370.2.2.2.2.2.2.2) == (x309002 == x309001)) = true then ((caravanlaw4_awake.f).bind fun t379 => (some t379)) else (some false))) else (none))) else (none))) else (caravanlaw4_CmdKeys.l1 k x1 x8 0)
def caravanlaw4_CmdKeys.l1 : Nat → Int → List ByteArray → Int → Option (Bool)
 | 0, _, _, _ => none
 | k + 1, x1, x8, x19 => if x19 < (wrap64 (2 * (Int.tmod (wrap64 (x1)) 20))) then (if x8.length < 8796093022208 then (caravanlaw4_CmdKeys.l1 k x1 (x8 ++ [(⟨#[109]⟩ : ByteArray)]) (wrap64 (x19 + 1))) else (none)) else ((cmd_Check.f x8).bind fun bt383 => (if bt383.2.2.2.2.2.2.2 = true then ((caravanlaw4_awake.f).bind fun t392 => (some t392)) else (some false)))
end
def caravanlaw4_CmdKeys.f (k : Nat) (a0 : Int) (a1 : Int) : Option (Bool) := (cmd_Names.f).bind fun t296 => (if (t296.length : Int) = 0 then (some false) else (if 0 ≤ (Int.tmod (wrap64 (a0)) (t296.length : Int)) then (if (Int.tmod (wrap64 (a0)) (t296.length : Int)) < (t296.length : Int) then ((cmd_Find.f (rdOf ByteArray.empty t296 (Int.tmod (wrap64 (a0)) (t296.length : Int)))).bind fun bt300 => (if bt300.2.2.2.2.2.2.2 = true then (if bt300.2.1 < 1 then (caravanlaw4_CmdKeys.j0 k a1 true bt300.1 bt300.2.1 bt300.2.2.1 bt300.2.2.2.1 bt300.2.2.2.2.1 bt300.2.2.2.2.2.1 bt300.2.2.2.2.2.2.1) else (caravanlaw4_CmdKeys.j0 k a1 (decide (bt300.2.1 > 9)) bt300.1 bt300.2.1 bt300.2.2.1 bt300.2.2.2.1 bt300.2.2.2.2.1 bt300.2.2.2.2.2.1 bt300.2.2.2.2.2.2.1)) else (caravanlaw4_CmdKeys.j0 k a1 true bt300.1 bt300.2.1 bt300.2.2.1 bt300.2.2.2.1 bt300.2.2.2.2.1 bt300.2.2.2.2.2.1 bt300.2.2.2.2.2.2.1))) else (none)) else (none)))
theorem caravanlaw4_CmdKeys.mono_l : ∀ k, (∀ y0 y1 y2 y3 y4 y5 y6 y7 y8, LeO (caravanlaw4_CmdKeys.j0 k y0 y1 y2 y3 y4 y5 y6 y7 y8) (caravanlaw4_CmdKeys.j0 (k + 1) y0 y1 y2 y3 y4 y5 y6 y7 y8)) ∧ (∀ y0 y1 y2 y3 y4 y5 y6 y7 y8, LeO (caravanlaw4_CmdKeys.l0 k y0 y1 y2 y3 y4 y5 y6 y7 y8) (caravanlaw4_CmdKeys.l0 (k + 1) y0 y1 y2 y3 y4 y5 y6 y7 y8)) ∧ (∀ y0 y1 y2 y3 y4 y5 y6 y7 y8 y9, LeO (caravanlaw4_CmdKeys.j2 k y0 y1 y2 y3 y4 y5 y6 y7 y8 y9) (caravanlaw4_CmdKeys.j2 (k + 1) y0 y1 y2 y3 y4 y5 y6 y7 y8 y9)) ∧ (∀ y0 y1 y2 y3 y4 y5 y6 y7 y8, LeO (caravanlaw4_CmdKeys.j3 k y0 y1 y2 y3 y4 y5 y6 y7 y8) (caravanlaw4_CmdKeys.j3 (k + 1) y0 y1 y2 y3 y4 y5 y6 y7 y8)) ∧ (∀ y0 y1 y2, LeO (caravanlaw4_CmdKeys.l1 k y0 y1 y2) (caravanlaw4_CmdKeys.l1 (k + 1) y0 y1 y2))
 | 0 => ⟨fun _ _ _ _ _ _ _ _ _ r h => by simp [caravanlaw4_CmdKeys.j0] at h, fun _ _ _ _ _ _ _ _ _ r h => by simp [caravanlaw4_CmdKeys.l0] at h, fun _ _ _ _ _ _ _ _ _ _ r h => by simp [caravanlaw4_CmdKeys.j2] at h, fun _ _ _ _ _ _ _ _ _ r h => by simp [caravanlaw4_CmdKeys.j3] at h, fun _ _ _ r h => by simp [caravanlaw4_CmdKeys.l1] at h⟩
 | k + 1 => by
  obtain ⟨ih0, ih1, ih2, ih3, ih4⟩ := caravanlaw4_CmdKeys.mono_l k
  refine ⟨?_, ?_, ?_, ?_, ?_⟩
  ·intro y0 y1 y2 y3 y4 y5 y6 y7 y8
   unfold caravanlaw4_CmdKeys.j0
   repeat' first
   | (with_reducible exact ih0 _ _ _ _ _ _ _ _ _)
   | (with_reducible exact ih1 _ _ _ _ _ _ _ _ _)
   | (with_reducible exact ih2 _ _ _ _ _ _ _ _ _ _)
   | (with_reducible exact ih3 _ _ _ _ _ _ _ _ _)
   | (with_reducible exact ih4 _ _ _)
   | (with_reducible exact caravanref1_Digits.mono _ _)
   | (with_reducible exact LeO.refl _)
   | (with_reducible exact LeO.none _)
   | (with_reducible refine LeO.ite ?_ ?_)
   | (with_reducible refine LeO.bind ?_ (fun _ => ?_))
   | exact ih0 _ _ _ _ _ _ _ _ _
   | exact ih1 _ _ _ _ _ _ _ _ _
   | exact ih2 _ _ _ _ _ _ _ _ _ _
   | exact ih3 _ _ _ _ _ _ _ _ _
   | exact ih4 _ _ _
   | exact caravanref1_Digits.mono _ _
   | exact LeO.none _
   | refine LeO.ite ?_ ?_
   | refine LeO.bind ?_ (fun _ => ?_)
  ·intro y0 y1 y2 y3 y4 y5 y6 y7 y8
   unfold caravanlaw4_CmdKeys.l0
   repeat' first
   | (with_reducible exact ih0 _ _ _ _ _ _ _ _ _)
   | (with_reducible exact ih1 _ _ _ _ _ _ _ _ _)
   | (with_reducible exact ih2 _ _ _ _ _ _ _ _ _ _)
   | (with_reducible exact ih3 _ _ _ _ _ _ _ _ _)
   | (with_reducible exact ih4 _ _ _)
   | (with_reducible exact caravanref1_Digits.mono _ _)
   | (with_reducible exact LeO.refl _)
   | (with_reducible exact LeO.none _)
   | (with_reducible refine LeO.ite ?_ ?_)
   | (with_reducible refine LeO.bind ?_ (fun _ => ?_))
   | exact ih0 _ _ _ _ _ _ _ _ _
   | exact ih1 _ _ _ _ _ _ _ _ _
   | exact ih2 _ _ _ _ _ _ _ _ _ _
   | exact ih3 _ _ _ _ _ _ _ _ _
   | exact ih4 _ _ _
   | exact caravanref1_Digits.mono _ _
   | exact LeO.none _
   | refine LeO.ite ?_ ?_
   | refine LeO.bind ?_ (fun _ => ?_)
  ·intro y0 y1 y2 y3 y4 y5 y6 y7 y8 y9
   unfold caravanlaw4_CmdKeys.j2
   repeat' first
   | (with_reducible exact ih0 _ _ _ _ _ _ _ _ _)
   | (with_reducible exact ih1 _ _ _ _ _ _ _ _ _)
   | (with_reducible exact ih2 _ _ _ _ _ _ _ _ _ _)
   | (with_reducible exact ih3 _ _ _ _ _ _ _ _ _)
   | (with_reducible exact ih4 _ _ _)
   | (with_reducible exact caravanref1_Digits.mono _ _)
   | (with_reducible exact LeO.refl _)
   | (with_reducible exact LeO.none _)
   | (with_reducible refine LeO.ite ?_ ?_)
   | (with_reducible refine LeO.bind ?_ (fun _ => ?_))
   | exact ih0 _ _ _ _ _ _ _ _ _
   | exact ih1 _ _ _ _ _ _ _ _ _
   | exact ih2 _ _ _ _ _ _ _ _ _ _
   | exact ih3 _ _ _ _ _ _ _ _ _
   | exact ih4 _ _ _
   | exact caravanref1_Digits.mono _ _
   | exact LeO.none _
   | refine LeO.ite ?_ ?_
   | refine LeO.bind ?_ (fun _ => ?_)
  ·intro y0 y1 y2 y3 y4 y5 y6 y7 y8
   unfold caravanlaw4_CmdKeys.j3
   repeat' first
   | (with_reducible exact ih0 _ _ _ _ _ _ _ _ _)
   | (with_reducible exact ih1 _ _ _ _ _ _ _ _ _)
   | (with_reducible exact ih2 _ _ _ _ _ _ _ _ _ _)
   | (with_reducible exact ih3 _ _ _ _ _ _ _ _ _)
   | (with_reducible exact ih4 _ _ _)
   | (with_reducible exact caravanref1_Digits.mono _ _)
   | (with_reducible exact LeO.refl _)
   | (with_reducible exact LeO.none _)
   | (with_reducible refine LeO.ite ?_ ?_)
   | (with_reducible refine LeO.bind ?_ (fun _ => ?_))
   | exact ih0 _ _ _ _ _ _ _ _ _
   | exact ih1 _ _ _ _ _ _ _ _ _
   | exact ih2 _ _ _ _ _ _ _ _ _ _
   | exact ih3 _ _ _ _ _ _ _ _ _
   | exact ih4 _ _ _
   | exact caravanref1_Digits.mono _ _
   | exact LeO.none _
   | refine LeO.ite ?_ ?_
   | refine LeO.bind ?_ (fun _ => ?_)
  ·intro y0 y1 y2
   unfold caravanlaw4_CmdKeys.l1
   repeat' first
   | (with_reducible exact ih0 _ _ _ _ _ _ _ _ _)
   | (with_reducible exact ih1 _ _ _ _ _ _ _ _ _)
   | (with_reducible exact ih2 _ _ _ _ _ _ _ _ _ _)
   | (with_reducible exact ih3 _ _ _ _ _ _ _ _ _)
   | (with_reducible exact ih4 _ _ _)
   | (with_reducible exact caravanref1_Digits.mono _ _)
   | (with_reducible exact LeO.refl _)
   | (with_reducible exact LeO.none _)
   | (with_reducible refine LeO.ite ?_ ?_)
   | (with_reducible refine LeO.bind ?_ (fun _ => ?_))
   | exact ih0 _ _ _ _ _ _ _ _ _
   | exact ih1 _ _ _ _ _ _ _ _ _
   | exact ih2 _ _ _ _ _ _ _ _ _ _
   | exact ih3 _ _ _ _ _ _ _ _ _
   | exact ih4 _ _ _
   | exact caravanref1_Digits.mono _ _
   | exact LeO.none _
   | refine LeO.ite ?_ ?_
   | refine LeO.bind ?_ (fun _ => ?_)
theorem caravanlaw4_CmdKeys.mono : ∀ a0 a1 k, LeO (caravanlaw4_CmdKeys.f k a0 a1) (caravanlaw4_CmdKeys.f (k + 1) a0 a1) := by
 intro a0 a1 k
 obtain ⟨ih0, ih1, ih2, ih3, ih4⟩ := caravanlaw4_CmdKeys.mono_l k
 unfold caravanlaw4_CmdKeys.f
 repeat' first
  | (with_reducible exact ih0 _ _ _ _ _ _ _ _ _)
  | (with_reducible exact ih1 _ _ _ _ _ _ _ _ _)
  | (with_reducible exact ih2 _ _ _ _ _ _ _ _ _ _)
  | (with_reducible exact ih3 _ _ _ _ _ _ _ _ _)
  | (with_reducible exact ih4 _ _ _)
  | (with_reducible exact caravanref1_Digits.mono _ _)
  | (with_reducible exact LeO.refl _)
  | (with_reducible exact LeO.none _)
  | (with_reducible refine LeO.ite ?_ ?_)
  | (with_reducible refine LeO.bind ?_ (fun _ => ?_))
  | exact ih0 _ _ _ _ _ _ _ _ _
  | exact ih1 _ _ _ _ _ _ _ _ _
  | exact ih2 _ _ _ _ _ _ _ _ _ _
  | exact ih3 _ _ _ _ _ _ _ _ _
  | exact ih4 _ _ _
  | exact caravanref1_Digits.mono _ _
  | exact LeO.none _
  | refine LeO.ite ?_ ?_
  | refine LeO.bind ?_ (fun _ => ?_)
set_option maxHeartbeats 8000000 in
set_option maxRecDepth 100000 in
theorem caravanlaw4_CmdKeys.calls (k : Nat) (a0 : Int) (a1 : Int) (r : Bool) (w : World) (h : caravanlaw4_CmdKeys.f k a0 a1 = some r) (hrt_ : r = true) :
 Calls Try.prog 6 #[.int .u8 a0, .int .u8 a1] w fun e w' => e = .returned (.bool r) ∧ Below w.heap.size w w' := by
 have hu26 := Try.underlying26
 have HB := Aside0.mk (Below.refl w.heap.size w)
 have H : ((cmd_Names.f).bind fun t296 => (if (t296.length : Int) = 0 then (some false) else (if 0 ≤ (Int.tmod (wrap64 (a0)) (t296.length : Int)) then (if (Int.tmod (wrap64 (a0)) (t296.length : Int)) < (t296.length : Int) then ((cmd_Find.f (rdOf ByteArray.empty t296 (Int.tmod (wrap64 (a0)) (t296.length : Int)))).bind fun bt300 => (if bt300.2.2.2.2.2.2.2 = true then (if bt300.2.1 < 1 then (caravanlaw4_CmdKeys.j0 k a1 true bt300.1 bt300.2.1 bt300.2.2.1 bt300.2.2.2.1 bt300.2.2.2.2.1 bt300.2.2.2.2.2.1 bt300.2.2.2.2.2.2.1) else (caravanlaw4_CmdKeys.j0 k a1 (decide (bt300.2.1 > 9)) bt300.1 bt300.2.1 bt300.2.2.1 bt300.2.2.2.1 bt300.2.2.2.2.1 bt300.2.2.2.2.2.1 bt300.2.2.2.2.2.2.1)) else (caravanlaw4_CmdKeys.j0 k a1 true bt300.1 bt300.2.1 bt300.2.2.1 bt300.2.2.2.1 bt300.2.2.2.2.1 bt300.2.2.2.2.2.1 bt300.2.2.2.2.2.2.1))) else (none)) else (none)))) = some r := h
 clear h
 replace H := Option.bind_eq_some_iff.mp H
 obtain ⟨t296, A30, H⟩ := H
 replace H : (if (t296.length : Int) = 0 then (some false) else (if 0 ≤ (Int.tmod (wrap64 (a0)) (t296.length : Int)) then (if (Int.tmod (wrap64 (a0)) (t296.length : Int)) < (t296.length : Int) then ((cmd_Find.f (rdOf ByteArray.empty t296 (Int.tmod (wrap64 (a0)) (t296.length : Int)))).bind fun bt300 => (if bt300.2.2.2.2.2.2.2 = true then (if bt300.2.1 < 1 then (caravanlaw4_CmdKeys.j0 k a1 true bt300.1 bt300.2.1 bt300.2.2.1 bt300.2.2.2.1 bt300.2.2.2.2.1 bt300.2.2.2.2.2.1 bt300.2.2.2.2.2.2.1) else (caravanlaw4_CmdKeys.j0 k a1 (decide (bt300.2.1 > 9)) bt300.1 bt300.2.1 bt300.2.2.1 bt300.2.2.2.1 bt300.2.2.2.2.1 bt300.2.2.2.2.2.1 bt300.2.2.2.2.2.2.1)) else (caravanlaw4_CmdKeys.j0 k a1 true bt300.1 bt300.2.1 bt300.2.2.1 bt300.2.2.2.1 bt300.2.2.2.2.1 bt300.2.2.2.2.2.1 bt300.2.2.2.2.2.2.1))) else (none)) else (none))) = some r := H
 have A3 := Aside0.mk A30
 clear A30
 by_cases c4 : (t296.length : Int) = 0
 ·rw [if_pos c4] at H
  have c4b0 : ((t296.length : Int) == 0) = true := beq_iff_eq.mpr c4
  have c4b1 : ((t296.length : Int) != 0) = false := bne_eq_false_iff_eq.mpr c4
  clear c4
  subst hrt_; exact absurd H (by simp)
 ·rw [if_neg c4] at H
  have c4b0 : ((t296.length : Int) == 0) = false := beq_eq_false_iff_ne.mpr c4
  have c4b1 : ((t296.length : Int) != 0) = true := bne_iff_ne.mpr c4
  have c4b2 : ¬ (t296 = []) := fun h_ => c4 (by rw [h_]; rfl)
  obtain ⟨ji5, hji5⟩ : ∃ j_ : Int, (Int.tmod (wrap64 (a0)) (t296.length : Int)) = j_ := ⟨_, rfl⟩
  replace H : (if 0 ≤ (ji5) then (if (ji5) < (t296.length : Int) then ((cmd_Find.f (rdOf ByteArray.empty t296 (ji5))).bind fun bt300 => (if bt300.2.2.2.2.2.2.2 = true then (if bt300.2.1 < 1 then (caravanlaw4_CmdKeys.j0 k a1 true bt300.1 bt300.2.1 bt300.2.2.1 bt300.2.2.2.1 bt300.2.2.2.2.1 bt300.2.2.2.2.2.1 bt300.2.2.2.2.2.2.1) else (caravanlaw4_CmdKeys.j0 k a1 (decide (bt300.2.1 > 9)) bt300.1 bt300.2.1 bt300.2.2.1 bt300.2.2.2.1 bt300.2.2.2.2.1 bt300.2.2.2.2.2.1 bt300.2.2.2.2.2.2.1)) else (caravanlaw4_CmdKeys.j0 k a1 true bt300.1 bt300.2.1 bt300.2.2.1 bt300.2.2.2.1 bt300.2.2.2.2.1 bt300.2.2.2.2.2.1 bt300.2.2.2.2.2.2.1))) else (none)) else (none)) = some r := by first | (rw [hji5] at H; exact H) | (simp only [hji5] at H ⊢; exact H)
  (try rw [hji5] at A3)
  by_cases c6 : 0 ≤ (ji5)
  ·rw [if_pos c6] at H
   have c6b0 : decide (0 ≤ (ji5)) = true := decide_eq_true c6
   clear c6
   by_cases c7 : (ji5) < (t296.length : Int)
   ·rw [if_pos c7] at H
    have c7b0 : decide ((ji5) < (t296.length : Int)) = true := decide_eq_true c7
    clear c7
    replace H := Option.bind_eq_some_iff.mp H
    obtain ⟨⟨t300, t301, t302, t303, t304, t305, t306, t307⟩, A80, H⟩ := H
    replace H : (if t307 = true then (if t301 < 1 then (caravanlaw4_CmdKeys.j0 k a1 true t300 t301 t302 t303 t304 t305 t306) else (caravanlaw4_CmdKeys.j0 k a1 (decide (t301 > 9)) t300 t301 t302 t303 t304 t305 t306)) else (caravanlaw4_CmdKeys.j0 k a1 true t300 t301 t302 t303 t304 t305 t306)) = some r := H
    have A8 := Aside0.mk A80
    clear A80
    have HC9 := Aside0.mk H
    clear H
    go_enter Try.func6, Try.ntmps6
    go_upto_region 5 with (first | ((with_reducible refine gate_callee (f := 17) rfl ?_); refine goesL_ (some 22) rfl rfl Try.func17 (by kernel_rfl) rfl #[] rfl qM_ ?_; (with_reducible refine (cmd_Names.calls  t296 _ A3.out).mono ?_); rintro e w10 ⟨v297, rfl, ho0, hb⟩; refine ⟨_, rfl, ?_⟩; have n0_ := Aside0.mk (Kd.V_lower (Kd.V_mono (ok' := fun k_ => True) ho0 (fun k_ hk_ => trivial)) (below_size (qdb35_ HB.out))); have n1_ := Aside0.mk (below_step (qdb35_ HB.out) hb); clear HB; have HO298 := n0_; have HB := n1_; clear n0_ n1_; (try clear hb); (try clear hb2); (try clear hk); (try clear hi); (try clear ho0); obtain ⟨Ao11, co11, eo11⟩ := Kd.V_slice HO298.out; subst eo11; have p299 : 0 ≤ ((ji5) : Int) := of_decide_eq_true (by first | (with_reducible assumption) | assumption); have q299 : (ji5) < (t296.length : Int) := of_decide_eq_true (by first | (with_reducible assumption) | assumption); obtain ⟨ad299, e299, hx299_0⟩ := Kd.at_string (Kd.V_reads' HO298.out).2.2 (ji5) p299 q299; cases e299; replace p299 := eq_true p299; replace q299 := eq_true q299) | ((with_reducible refine gate_callee (f := 11) rfl ?_); refine goesL_ (some 35) rfl rfl Try.func11 (by kernel_rfl) rfl #[.string (rdOf ByteArray.empty t296 (ji5))] rfl (by (try simp only [List.map_toArray, List.map_cons, List.map_nil]); first | done | (simp only [hji5]; rfl) | rfl | (simp only [List.length_drop, List.length_take]; rfl)) ?_; (with_reducible refine (cmd_Find.calls (rdOf ByteArray.empty t296 (ji5)) t300 t301 t302 t303 t304 t305 t306 t307 _ A8.out).mono ?_); rintro e w12 ⟨rfl, hb⟩; refine ⟨_, rfl, ?_⟩; have n0_ := Aside0.mk (Kd.V_below (q4d18_ HO298.out) hb); have n1_ := Aside0.mk (below_step (qdb35_ HB.out) hb); clear HO298; clear HB; have HO298 := n0_; have HB := n1_; clear n0_ n1_; (try clear hb); (try clear hb2); (try clear hk); (try clear hi)) | ((with_reducible refine gate_dst (N := 6) rfl ?_); (try (refine gate_guard (by rfl) ?_; dsimp only)); refine box_event ?hg (N := 6) ?hd (cs := #[.string (⟨#[]⟩ : ByteArray), .int .i64 0, .int .i64 0, .int .i64 0, .int .i64 0, .int .i64 0, .bool false]) (t := 26) ?hr ?_; (case hd => rfl); (case hg => rfl); (case hr => first | (go_simp; done) | (go_simp; rfl)); intro gb308 hg w13 hbox hb; have n0_ := Aside0.mk (Kd.V_below (Kd.V_elderB (q4d18_ HO298.out) gb308 (Nat.le_of_eq hg.symm)) hb); have n1_ := Aside0.mk (below_step (qdb35_ HB.out) hb); have n2_ := Aside0.mk (hbox); have n3_ := Aside0.mk ((by rw [hg]; exact (below_size (qdb35_ HB.out)) : w.heap.size ≤ gb308)); have n4_ := Aside0.mk ((by rw [hg]; exact (below_size (qdb35_ HB.out)) : w.heap.size ≤ gb308)); clear HO298; clear HB; have HO298 := n0_; have HB := n1_; have BK308 := n2_; have GW308 := n3_; have GE308 := n4_; clear n0_ n1_ n2_ n3_ n4_; clear hb hbox hg; have hcz14_0 : w13.cell? ⟨gb308, 0, none⟩ = some (.string (⟨#[]⟩ : ByteArray)) := (blk_cell BK308.out 0).trans rfl; have hcz14_1 : w13.cell? ⟨gb308, 1, none⟩ = some (.int .i64 0) := (blk_cell BK308.out 1).trans rfl; have hcz14_2 : w13.cell? ⟨gb308, 2, none⟩ = some (.int .i64 0) := (blk_cell BK308.out 2).trans rfl; have hcz14_3 : w13.cell? ⟨gb308, 3, none⟩ = some (.int .i64 0) := (blk_cell BK308.out 3).trans rfl; have hcz14_4 : w13.cell? ⟨gb308, 4, none⟩ = some (.int .i64 0) := (blk_cell BK308.out 4).trans rfl; have hcz14_5 : w13.cell? ⟨gb308, 5, none⟩ = some (.int .i64 0) := (blk_cell BK308.out 5).trans rfl; have hcz14_6 : w13.cell? ⟨gb308, 6, none⟩ = some (.bool false) := (blk_cell BK308.out 6).trans rfl; have hfz14_0 := blk_frozen BK308.out 0; have hfz14_1 := blk_frozen BK308.out 1; have hfz14_2 := blk_frozen BK308.out 2; have hfz14_3 := blk_frozen BK308.out 3; have hfz14_4 := blk_frozen BK308.out 4; have hfz14_5 := blk_frozen BK308.out 5; have hfz14_6 := blk_frozen BK308.out 6))
    (try simp only [Act.put, List.setIfInBounds_toArray, List.set_cons_zero, List.set_cons_succ])
    go_cut [49] (fun v49 wc => ∃ (kq : Nat) (x49_8 : Bool), v49 = .bool x49_8 ∧ Aside0 (caravanlaw4_CmdKeys.j0 kq a1 x49_8 t300 t301 t302 t303 t304 t305 t306 = some r) ∧ Aside0 (kq ≤ k) ∧ Aside0 (wc.heap[gb308]? = some (.cells #[.string t300, .int .i64 t301, .int .i64 t302, .int .i64 t303, .int .i64 t304, .int .i64 t305, .bool t306] 26 (0, 0))) ∧ Aside0 (Below w.heap.size w wc))
    case first =>
     have H := HC9.out
     clear HC9
     by_cases c15 : t307 = true
     ·subst c15
      have H1 : (if t301 < 1 then (caravanlaw4_CmdKeys.j0 k a1 true t300 t301 t302 t303 t304 t305 t306) else (caravanlaw4_CmdKeys.j0 k a1 (decide (t301 > 9)) t300 t301 t302 t303 t304 t305 t306)) = some r := by rw [if_pos rfl] at H; exact H
      clear H
      have H := H1
      clear H1
      by_cases c16 : t301 < 1
      ·rw [if_pos c16] at H
       have c16b0 : decide (t301 < 1) = true := decide_eq_true c16
       clear c16
       (first | rw [c16b0] | (simp only [i64_w, i32_w]; rw [c16b0]) | skip)
       have H' := Aside0.mk H
       clear H
       have hcz17_0 : w13.cell? ⟨gb308, 0, none⟩ = some (.string (⟨#[]⟩ : ByteArray)) := (blk_cell BK308.out 0).trans rfl
       have hcz17_1 : w13.cell? ⟨gb308, 1, none⟩ = some (.int .i64 0) := (blk_cell BK308.out 1).trans rfl
       have hcz17_2 : w13.cell? ⟨gb308, 2, none⟩ = some (.int .i64 0) := (blk_cell BK308.out 2).trans rfl
       have hcz17_3 : w13.cell? ⟨gb308, 3, none⟩ = some (.int .i64 0) := (blk_cell BK308.out 3).trans rfl
       have hcz17_4 : w13.cell? ⟨gb308, 4, none⟩ = some (.int .i64 0) := (blk_cell BK308.out 4).trans rfl
       have hcz17_5 : w13.cell? ⟨gb308, 5, none⟩ = some (.int .i64 0) := (blk_cell BK308.out 5).trans rfl
       have hcz17_6 : w13.cell? ⟨gb308, 6, none⟩ = some (.bool false) := (blk_cell BK308.out 6).trans rfl
       have hfz17_0 := blk_frozen BK308.out 0
       have hfz17_1 := blk_frozen BK308.out 1
       have hfz17_2 := blk_frozen BK308.out 2
       have hfz17_3 := blk_frozen BK308.out 3
       have hfz17_4 := blk_frozen BK308.out 4
       have hfz17_5 := blk_frozen BK308.out 5
       have hfz17_6 := blk_frozen BK308.out 6
       go_wp2
       go_meet
       case rel => exact ⟨_, (true), (by first | rfl | (simp; done) | (simp [*]; done)), H', ⟨by first | omega | exact Nat.le_refl _⟩, ⟨by (with_reducible repeat (first | refine blk_drewN ?_ _ | refine blk_drew ?_ | refine blk_alloc ?_ _)); refine blk_put (cs := #[.string t300, .int .i64 t301, .int .i64 t302, .int .i64 t303, .int .i64 t304, .int .i64 t305, .bool false]) ?_ 6 _ rfl; (with_reducible repeat (first | refine blk_drewN ?_ _ | refine blk_drew ?_ | refine blk_alloc ?_ _)); refine blk_put (cs := #[.string t300, .int .i64 t301, .int .i64 t302, .int .i64 t303, .int .i64 t304, .int .i64 0, .bool false]) ?_ 5 _ rfl; (with_reducible repeat (first | refine blk_drewN ?_ _ | refine blk_drew ?_ | refine blk_alloc ?_ _)); refine blk_put (cs := #[.string t300, .int .i64 t301, .int .i64 t302, .int .i64 t303, .int .i64 0, .int .i64 0, .bool false]) ?_ 4 _ rfl; (with_reducible repeat (first | refine blk_drewN ?_ _ | refine blk_drew ?_ | refine blk_alloc ?_ _)); refine blk_put (cs := #[.string t300, .int .i64 t301, .int .i64 t302, .int .i64 0, .int .i64 0, .int .i64 0, .bool false]) ?_ 3 _ rfl; (with_reducible repeat (first | refine blk_drewN ?_ _ | refine blk_drew ?_ | refine blk_alloc ?_ _)); refine blk_put (cs := #[.string t300, .int .i64 t301, .int .i64 0, .int .i64 0, .int .i64 0, .int .i64 0, .bool false]) ?_ 2 _ rfl; (with_reducible repeat (first | refine blk_drewN ?_ _ | refine blk_drew ?_ | refine blk_alloc ?_ _)); refine blk_put (cs := #[.string t300, .int .i64 0, .int .i64 0, .int .i64 0, .int .i64 0, .int .i64 0, .bool false]) ?_ 1 _ rfl; (with_reducible repeat (first | refine blk_drewN ?_ _ | refine blk_drew ?_ | refine blk_alloc ?_ _)); refine blk_put (cs := #[.string (⟨#[]⟩ : ByteArray), .int .i64 0, .int .i64 0, .int .i64 0, .int .i64 0, .int .i64 0, .bool false]) ?_ 0 _ rfl; (with_reducible repeat (first | refine blk_drewN ?_ _ | refine blk_drew ?_ | refine blk_alloc ?_ _)); exact BK308.out⟩, ⟨(qed14_ HB.out GE308.out)⟩⟩
      ·rw [if_neg c16] at H
       have c16b0 : decide (t301 < 1) = false := decide_eq_false c16
       clear c16
       (first | rw [c16b0] | (simp only [i64_w, i32_w]; rw [c16b0]) | skip)
       have H' := Aside0.mk H
       clear H
       have hcz18_0 : w13.cell? ⟨gb308, 0, none⟩ = some (.string (⟨#[]⟩ : ByteArray)) := (blk_cell BK308.out 0).trans rfl
       have hcz18_1 : w13.cell? ⟨gb308, 1, none⟩ = some (.int .i64 0) := (blk_cell BK308.out 1).trans rfl
       have hcz18_2 : w13.cell? ⟨gb308, 2, none⟩ = some (.int .i64 0) := (blk_cell BK308.out 2).trans rfl
       have hcz18_3 : w13.cell? ⟨gb308, 3, none⟩ = some (.int .i64 0) := (blk_cell BK308.out 3).trans rfl
       have hcz18_4 : w13.cell? ⟨gb308, 4, none⟩ = some (.int .i64 0) := (blk_cell BK308.out 4).trans rfl
       have hcz18_5 : w13.cell? ⟨gb308, 5, none⟩ = some (.int .i64 0) := (blk_cell BK308.out 5).trans rfl
       have hcz18_6 : w13.cell? ⟨gb308, 6, none⟩ = some (.bool false) := (blk_cell BK308.out 6).trans rfl
       have hfz18_0 := blk_frozen BK308.out 0
       have hfz18_1 := blk_frozen BK308.out 1
       have hfz18_2 := blk_frozen BK308.out 2
       have hfz18_3 := blk_frozen BK308.out 3
       have hfz18_4 := blk_frozen BK308.out 4
       have hfz18_5 := blk_frozen BK308.out 5
       have hfz18_6 := blk_frozen BK308.out 6
       go_wp2
       go_meet
       case rel => exact ⟨_, (decide (t301 > 9)), (by first | rfl | (simp; done) | (simp [*]; done)), H', ⟨by first | omega | exact Nat.le_refl _⟩, ⟨by (with_reducible repeat (first | refine blk_drewN ?_ _ | refine blk_drew ?_ | refine blk_alloc ?_ _)); refine blk_put (cs := #[.string t300, .int .i64 t301, .int .i64 t302, .int .i64 t303, .int .i64 t304, .int .i64 t305, .bool false]) ?_ 6 _ rfl; (with_reducible repeat (first | refine blk_drewN ?_ _ | refine blk_drew ?_ | refine blk_alloc ?_ _)); refine blk_put (cs := #[.string t300, .int .i64 t301, .int .i64 t302, .int .i64 t303, .int .i64 t304, .int .i64 0, .bool false]) ?_ 5 _ rfl; (with_reducible repeat (first | refine blk_drewN ?_ _ | refine blk_drew ?_ | refine blk_alloc ?_ _)); refine blk_put (cs := #[.string t300, .int .i64 t301, .int .i64 t302, .int .i64 t303, .int .i64 0, .int .i64 0, .bool false]) ?_ 4 _ rfl; (with_reducible repeat (first | refine blk_drewN ?_ _ | refine blk_drew ?_ | refine blk_alloc ?_ _)); refine blk_put (cs := #[.string t300, .int .i64 t301, .int .i64 t302, .int .i64 0, .int .i64 0, .int .i64 0, .bool false]) ?_ 3 _ rfl; (with_reducible repeat (first | refine blk_drewN ?_ _ | refine blk_drew ?_ | refine blk_alloc ?_ _)); refine blk_put (cs := #[.string t300, .int .i64 t301, .int .i64 0, .int .i64 0, .int .i64 0, .int .i64 0, .bool false]) ?_ 2 _ rfl; (with_reducible repeat (first | refine blk_drewN ?_ _ | refine blk_drew ?_ | refine blk_alloc ?_ _)); refine blk_put (cs := #[.string t300, .int .i64 0, .int .i64 0, .int .i64 0, .int .i64 0, .int .i64 0, .bool false]) ?_ 1 _ rfl; (with_reducible repeat (first | refine blk_drewN ?_ _ | refine blk_drew ?_ | refine blk_alloc ?_ _)); refine blk_put (cs := #[.string (⟨#[]⟩ : ByteArray), .int .i64 0, .int .i64 0, .int .i64 0, .int .i64 0, .int .i64 0, .bool false]) ?_ 0 _ rfl; (with_reducible repeat (first | refine blk_drewN ?_ _ | refine blk_drew ?_ | refine blk_alloc ?_ _)); exact BK308.out⟩, ⟨(qed14_ HB.out GE308.out)⟩⟩
     ·replace c15 := Bool.eq_false_iff.mpr c15
      subst c15
      have H1 : (caravanlaw4_CmdKeys.j0 k a1 true t300 t301 t302 t303 t304 t305 t306) = some r := by rw [if_neg (show ¬ (false = true) by decide)] at H; exact H
      clear H
      have H := H1
      clear H1
      have H' := Aside0.mk H
      clear H
      go_wp2
      go_meet
      case rel => exact ⟨_, (true), (by first | rfl | (simp; done) | (simp [*]; done)), H', ⟨by first | omega | exact Nat.le_refl _⟩, ⟨by (with_reducible repeat (first | refine blk_drewN ?_ _ | refine blk_drew ?_ | refine blk_alloc ?_ _)); refine blk_put (cs := #[.string t300, .int .i64 t301, .int .i64 t302, .int .i64 t303, .int .i64 t304, .int .i64 t305, .bool false]) ?_ 6 _ rfl; (with_reducible repeat (first | refine blk_drewN ?_ _ | refine blk_drew ?_ | refine blk_alloc ?_ _)); refine blk_put (cs := #[.string t300, .int .i64 t301, .int .i64 t302, .int .i64 t303, .int .i64 t304, .int .i64 0, .bool false]) ?_ 5 _ rfl; (with_reducible repeat (first | refine blk_drewN ?_ _ | refine blk_drew ?_ | refine blk_alloc ?_ _)); refine blk_put (cs := #[.string t300, .int .i64 t301, .int .i64 t302, .int .i64 t303, .int .i64 0, .int .i64 0, .bool false]) ?_ 4 _ rfl; (with_reducible repeat (first | refine blk_drewN ?_ _ | refine blk_drew ?_ | refine blk_alloc ?_ _)); refine blk_put (cs := #[.string t300, .int .i64 t301, .int .i64 t302, .int .i64 0, .int .i64 0, .int .i64 0, .bool false]) ?_ 3 _ rfl; (with_reducible repeat (first | refine blk_drewN ?_ _ | refine blk_drew ?_ | refine blk_alloc ?_ _)); refine blk_put (cs := #[.string t300, .int .i64 t301, .int .i64 0, .int .i64 0, .int .i64 0, .int .i64 0, .bool false]) ?_ 2 _ rfl; (with_reducible repeat (first | refine blk_drewN ?_ _ | refine blk_drew ?_ | refine blk_alloc ?_ _)); refine blk_put (cs := #[.string t300, .int .i64 0, .int .i64 0, .int .i64 0, .int .i64 0, .int .i64 0, .bool false]) ?_ 1 _ rfl; (with_reducible repeat (first | refine blk_drewN ?_ _ | refine blk_drew ?_ | refine blk_alloc ?_ _)); refine blk_put (cs := #[.string (⟨#[]⟩ : ByteArray), .int .i64 0, .int .i64 0, .int .i64 0, .int .i64 0, .int .i64 0, .bool false]) ?_ 0 _ rfl; (with_reducible repeat (first | refine blk_drewN ?_ _ | refine blk_drew ?_ | refine blk_alloc ?_ _)); exact BK308.out⟩, ⟨(qed14_ HB.out GE308.out)⟩⟩
    case rest =>
     clear HC9
     try clear c1
     try clear p2
     try clear q2
     try clear hx2
     try clear c4
     try clear c4b0
     try clear c4b1
     try clear c4b2
     try clear c6
     try clear c6b0
     try clear p6
     try clear c7
     try clear c7b0
     try clear c11
     try clear c15
     try clear c16
     try clear c16b0
     try clear c17
     try clear hcz14_0
     try clear hcz14_1
     try clear hcz14_2
     try clear hcz14_3
     try clear hcz14_4
     try clear hcz14_5
     try clear hcz14_6
     try clear hcz17_0
     try clear hcz17_1
     try clear hcz17_2
     try clear hcz17_3
     try clear hcz17_4
     try clear hcz17_5
     try clear hcz17_6
     try clear hcz18_0
     try clear hcz18_1
     try clear hcz18_2
     try clear hcz18_3
     try clear hcz18_4
     try clear hcz18_5
     try clear hcz18_6
     try clear hfz14_0
     try clear hfz14_1
     try clear hfz14_2
     try clear hfz14_3
     try clear hfz14_4
     try clear hfz14_5
     try clear hfz14_6
     try clear hfz17_0
     try clear hfz17_1
     try clear hfz17_2
     try clear hfz17_3
     try clear hfz17_4
     try clear hfz17_5
     try clear hfz17_6
     try clear hfz18_0
     try clear hfz18_1
     try clear hfz18_2
     try clear hfz18_3
     try clear hfz18_4
     try clear hfz18_5
     try clear hfz18_6
     try clear hx299_0
     try clear p299
     try clear q299
     obtain ⟨kq, x49_8, rfl, HA, HJ8, BK308, HB⟩ := hcut
     cases kq with
     | zero => exact absurd HA.out (by simp [caravanlaw4_CmdKeys.j0])
     | succ kj8 =>
      have H := HA.out
      clear HA
      simp only [caravanlaw4_CmdKeys.j0] at H
      by_cases c19 : x49_8 = true
      ·subst c19
       have H1 : (some false) = some r := by rw [if_pos rfl] at H; exact H
       clear H
       have H := H1
       clear H1
       subst hrt_; exact absurd H (by simp)
      ·replace c19 := Bool.eq_false_iff.mpr c19
       subst c19
       have H1 : (caravanlaw4_CmdKeys.l0 kj8 a1 (([t300] : List ByteArray)) t300 t301 t302 t303 t304 t305 t306) = some r := by rw [if_neg (show ¬ (false = true) by decide)] at H; exact H
       clear H
       have H := H1
       clear H1
       obtain ⟨y309, hy309⟩ : ∃ y_ : List ByteArray, y_ = (([t300] : List ByteArray)) := ⟨_, rfl⟩
       replace H : (caravanlaw4_CmdKeys.l0 kj8 a1 y309 t300 t301 t302 t303 t304 t305 t306) = some r := by first | (rw [hy309]; with_reducible exact H) | (have H2_ := (Option.bind_some _ _).symm.trans H; rw [hy309]; with_reducible exact H2_) | (have H2_ := (Option.bind_some _ _).symm.trans H; with_reducible exact H2_) | with_reducible exact H | (rw [hy309]; exact H) | exact H
       have Ny309 := Aside0.mk hy309
       clear hy309
       have H' := Aside0.mk H
       clear H
       have hcz20_0 : wc.cell? ⟨gb308, 0, none⟩ = some (.string t300) := (blk_cell BK308.out 0).trans rfl
       have hcz20_1 : wc.cell? ⟨gb308, 1, none⟩ = some (.int .i64 t301) := (blk_cell BK308.out 1).trans rfl
       have hcz20_2 : wc.cell? ⟨gb308, 2, none⟩ = some (.int .i64 t302) := (blk_cell BK308.out 2).trans rfl
       have hcz20_3 : wc.cell? ⟨gb308, 3, none⟩ = some (.int .i64 t303) := (blk_cell BK308.out 3).trans rfl
       have hcz20_4 : wc.cell? ⟨gb308, 4, none⟩ = some (.int .i64 t304) := (blk_cell BK308.out 4).trans rfl
       have hcz20_5 : wc.cell? ⟨gb308, 5, none⟩ = some (.int .i64 t305) := (blk_cell BK308.out 5).trans rfl
       have hcz20_6 : wc.cell? ⟨gb308, 6, none⟩ = some (.bool t306) := (blk_cell BK308.out 6).trans rfl
       have hfz20_0 := blk_frozen BK308.out 0
       have hfz20_1 := blk_frozen BK308.out 1
       have hfz20_2 := blk_frozen BK308.out 2
       have hfz20_3 := blk_frozen BK308.out 3
       have hfz20_4 := blk_frozen BK308.out 4
       have hfz20_5 := blk_frozen BK308.out 5
       have hfz20_6 := blk_frozen BK308.out 6
       go_wp2_with (first | ((with_reducible refine gate_dst (N := 52) rfl ?_); (try (refine gate_guard (by rfl) ?_; dsimp only)); refine Kd.R_lit Kd.string _ 9 ?hg (N := 52) ?hd (xs := ([t300] : List ByteArray)) (inner := [.string t300]) (ok := fun _ => True) (okp := fun _ => True) ?hr ?hp (fun _ hk => hk) trivial (Below.refl _ _) (Nat.le_refl _) (by simp) ?_; (case hd => rfl); (case hg => rfl); (case hr => first | (go_simp; done) | (go_simp; rfl)); (case hp => exact (Reps.one (show Kd.M Kd.string _ _ _ t300 [.string t300] from rfl) (Reps.none _ _))); intro v310 w21 ho22 hb hg_ hnew_; clear hg_ hnew_; (first | rw [← Ny309.out] at ho22 | (simp only [Int.reduceToNat] at ho22; rw [← Ny309.out] at ho22)); have n0_ := Aside0.mk (Kd.R_lower ho22 (below_size (qed14_ HB.out GE308.out))); have n1_ := Aside0.mk (blk_below (g := gb308) (o := .cells #[.string t300, .int .i64 t301, .int .i64 t302, .int .i64 t303, .int .i64 t304, .int .i64 t305, .bool t306] 26 (0, 0)) (q1466_ BK308.out) hb); have n2_ := Aside0.mk (below_step (qed14_ HB.out GE308.out) hb); clear BK308; clear HB; have HO311 := n0_; have BK308 := n1_; have HB := n2_; clear n0_ n1_ n2_; clear hb ho22))
       go_loopg [8] kj8 (fun kq v8 w' => ∃ (x8_2 : List ByteArray), Aside0 (caravanlaw4_CmdKeys.l0 kq a1 x8_2 t300 t301 t302 t303 t304 t305 t306 = some r) ∧ Aside0 (kq ≤ kj8) ∧ Aside0 (Kd.R Kd.string 9 w' w.heap.size (fun _ => True) v8 x8_2) ∧ Aside0 (w'.heap[gb308]? = some (.cells #[.string t300, .int .i64 t301, .int .i64 t302, .int .i64 t303, .int .i64 t304, .int .i64 t305, .bool t306] 26 (0, 0))) ∧ Aside0 (Below w.heap.size w w'))
       case atStart => exact ⟨(y309), H', ⟨Nat.le_refl _⟩, ⟨by (with_reducible repeat (first | apply Kd.R_alloc | apply Kd.R_drewN | apply Kd.R_drew)); exact HO311.out⟩, ⟨by (with_reducible repeat (first | refine blk_drewN ?_ _ | refine blk_drew ?_ | refine blk_alloc ?_ _)); exact BK308.out⟩, ⟨(qed14_ HB.out GE308.out)⟩⟩
       case round =>
        clear H'
        try clear c1
        try clear p2
        try clear q2
        try clear hx2
        try clear c4
        try clear c4b0
        try clear c4b1
        try clear c4b2
        try clear c6
        try clear c6b0
        try clear p6
        try clear c7
        try clear c7b0
        try clear c11
        try clear c15
        try clear c16
        try clear c16b0
        try clear c17
        try clear c19
        try clear hcz14_0
        try clear hcz14_1
        try clear hcz14_2
        try clear hcz14_3
        try clear hcz14_4
        try clear hcz14_5
        try clear hcz14_6
        try clear hcz17_0
        try clear hcz17_1
        try clear hcz17_2
        try clear hcz17_3
        try clear hcz17_4
        try clear hcz17_5
        try clear hcz17_6
        try clear hcz18_0
        try clear hcz18_1
        try clear hcz18_2
        try clear hcz18_3
        try clear hcz18_4
        try clear hcz18_5
        try clear hcz18_6
        try clear hcz20_0
        try clear hcz20_1
        try clear hcz20_2
        try clear hcz20_3
        try clear hcz20_4
        try clear hcz20_5
        try clear hcz20_6
        try clear hfz14_0
        try clear hfz14_1
        try clear hfz14_2
        try clear hfz14_3
        try clear hfz14_4
        try clear hfz14_5
        try clear hfz14_6
        try clear hfz17_0
        try clear hfz17_1
        try clear hfz17_2
        try clear hfz17_3
        try clear hfz17_4
        try clear hfz17_5
        try clear hfz17_6
        try clear hfz18_0
        try clear hfz18_1
        try clear hfz18_2
        try clear hfz18_3
        try clear hfz18_4
        try clear hfz18_5
        try clear hfz18_6
        try clear hfz20_0
        try clear hfz20_1
        try clear hfz20_2
        try clear hfz20_3
        try clear hfz20_4
        try clear hfz20_5
        try clear hfz20_6
        try clear hx299_0
        try clear p2
        try clear p299
        try clear p6
        try clear q2
        try clear q299
        obtain ⟨x8_2, HA, HK2, HO_8, BK308, HB⟩ := hrel
        cases gk with
        | zero => exact absurd HA.out (by simp [caravanlaw4_CmdKeys.l0])
        | succ k2 =>
         have H := HA.out
         clear HA
         simp only [caravanlaw4_CmdKeys.l0] at H
         by_cases c23 : (x8_2.length : Int) < t301
         ·rw [if_pos c23] at H
          have c23b0 : decide ((x8_2.length : Int) < t301) = true := decide_eq_true c23
          clear c23
          replace H := Option.bind_eq_some_iff.mp H
          obtain ⟨t312, A240, H⟩ := H
          replace H : (if 1 + t312.size ≤ 9223372036854775807 then (if x8_2.length < 8796093022208 then (caravanlaw4_CmdKeys.l0 k2 a1 (x8_2 ++ [(⟨#[107]⟩ : ByteArray) ++ t312]) t300 t301 t302 t303 t304 t305 t306) else (none)) else (none)) = some r := H
          have A24 := Aside0.mk A240
          clear A240
          by_cases c25 : 1 + t312.size ≤ 9223372036854775807
          ·rw [if_pos c25] at H
           have c25b0 := eq_true c25
           have c25b1 : decide (1 + t312.size ≤ 9223372036854775807) = true := decide_eq_true c25
           try have c25b2 : (9223372036854775807 < 1 + t312.size) = False := eq_false (Nat.not_lt.2 c25)
           by_cases c26 : x8_2.length < 8796093022208
           ·rw [if_pos c26] at H
            have LMc26 := Aside0.mk c26
            clear c26
            obtain ⟨y313, hy313⟩ : ∃ y_ : List ByteArray, y_ = (x8_2 ++ [(⟨#[107]⟩ : ByteArray) ++ t312]) := ⟨_, rfl⟩
            replace H : (caravanlaw4_CmdKeys.l0 k2 a1 y313 t300 t301 t302 t303 t304 t305 t306) = some r := by first | (rw [hy313]; with_reducible exact H) | (have H2_ := (Option.bind_some _ _).symm.trans H; rw [hy313]; with_reducible exact H2_) | (have H2_ := (Option.bind_some _ _).symm.trans H; with_reducible exact H2_) | with_reducible exact H | (rw [hy313]; exact H) | exact H
            have Ny313 := Aside0.mk hy313
            clear hy313
            have H' := Aside0.mk H
            clear H
            obtain ⟨Ao27, co27, eo27⟩ := Kd.R_slice HO_8.out
            subst eo27
            have hcz28_0 : wr.cell? ⟨gb308, 0, none⟩ = some (.string t300) := (blk_cell BK308.out 0).trans rfl
            have hcz28_1 : wr.cell? ⟨gb308, 1, none⟩ = some (.int .i64 t301) := (blk_cell BK308.out 1).trans rfl
            have hcz28_2 : wr.cell? ⟨gb308, 2, none⟩ = some (.int .i64 t302) := (blk_cell BK308.out 2).trans rfl
            have hcz28_3 : wr.cell? ⟨gb308, 3, none⟩ = some (.int .i64 t303) := (blk_cell BK308.out 3).trans rfl
            have hcz28_4 : wr.cell? ⟨gb308, 4, none⟩ = some (.int .i64 t304) := (blk_cell BK308.out 4).trans rfl
            have hcz28_5 : wr.cell? ⟨gb308, 5, none⟩ = some (.int .i64 t305) := (blk_cell BK308.out 5).trans rfl
            have hcz28_6 : wr.cell? ⟨gb308, 6, none⟩ = some (.bool t306) := (blk_cell BK308.out 6).trans rfl
            have hfz28_0 := blk_frozen BK308.out 0
            have hfz28_1 := blk_frozen BK308.out 1
            have hfz28_2 := blk_frozen BK308.out 2
            have hfz28_3 := blk_frozen BK308.out 3
            have hfz28_4 := blk_frozen BK308.out 4
            have hfz28_5 := blk_frozen BK308.out 5
            have hfz28_6 := blk_frozen BK308.out 6
            go_wp2_with (first | ((with_reducible refine gate_callee (f := 16) rfl ?_); refine goesL_ (some 61) rfl rfl Try.func16 (by kernel_rfl) rfl #[.int .i64 (x8_2.length : Int)] rfl qM_ ?_; (with_reducible refine (caravanref1_Digits.calls k2 (x8_2.length : Int) t312 _ A24.out).mono ?_); rintro e w29 ⟨rfl, hb⟩; refine ⟨_, rfl, ?_⟩; have n0_ := Aside0.mk (Kd.R_below (q8524_ HO_8.out) hb); have n1_ := Aside0.mk (blk_below (g := gb308) (o := .cells #[.string t300, .int .i64 t301, .int .i64 t302, .int .i64 t303, .int .i64 t304, .int .i64 t305, .bool t306] 26 (0, 0)) (q1466_ BK308.out) hb); have n2_ := Aside0.mk (below_step (qed14_ HB.out GE308.out) hb); clear HO_8; clear BK308; clear HB; have HO_8 := n0_; have BK308 := n1_; have HB := n2_; clear n0_ n1_ n2_; (try clear hb); (try clear hb2); (try clear hk); (try clear hi)) | ((with_reducible refine gate_builtin (b := .append) (xs := #[.tmp 58, .tmp 63]) rfl ?_); (try (refine gate_guard (by rfl) ?_; dsimp only)); at_builtin; refine Kd.R_append Kd.string (w0 := w) w.heap.size rfl (.tmp 58) (.tmp 63) 22 9 (.string ⟨#[]⟩) 16 rfl Try.underlying22 info9 rfl (by decide) (by omega) (.slice Ao27 x8_2.length co27) x8_2 ((⟨#[107]⟩ : ByteArray) ++ t312) [.string ((⟨#[107]⟩ : ByteArray) ++ t312)] (fun _ => True) (fun _ => False) rfl rfl ?aP (fun _ hk => hk.elim) ?aF ?aO ?aB ?aS ?aL ?_; (case aP => exact rfl); (case aB => exact (qed14_ HB.out GE308.out)); (case aF => exact (fun _ _ => trivial)); (case aO => exact (q8524_ HO_8.out)); (case aS => exact (below_size (qed14_ HB.out GE308.out))); (case aL => have := LMc26.out; omega); intro v314 w30 ho hb hg hat; rw [← Ny313.out] at ho; have n0_ := Aside0.mk (blk_grown (g := gb308) (o := .cells #[.string t300, .int .i64 t301, .int .i64 t302, .int .i64 t303, .int .i64 t304, .int .i64 t305, .bool t306] 26 (0, 0)) (q1466_ BK308.out) hg (Kd.R_ne HO_8.out BK308.out (by decide))); have n1_ := Aside0.mk (hb); have n2_ := Aside0.mk (ho); clear BK308; clear HB; clear HO_8; have BK308 := n0_; have HB := n1_; have HO315 := n2_; clear n0_ n1_ n2_; clear ho hb hg hat))
            go_roundg k2
            case measure => have := HJ8.out; have := HK2.out; omega
            case rel => exact ⟨(y313), H', ⟨by have := HJ8.out; have := HK2.out; omega⟩, ⟨by (with_reducible repeat (first | apply Kd.R_alloc | apply Kd.R_drewN | apply Kd.R_drew)); exact HO315.out⟩, ⟨by (with_reducible repeat (first | refine blk_drewN ?_ _ | refine blk_drew ?_ | refine blk_alloc ?_ _)); exact BK308.out⟩, ⟨(qed14_ HB.out GE308.out)⟩⟩
           ·rw [if_neg c26] at H
            exact absurd H (by simp)
          ·rw [if_neg c25] at H
           exact absurd H (by simp)
         ·rw [if_neg c23] at H
          have c23b0 : decide ((x8_2.length : Int) < t301) = false := decide_eq_false c23
          clear c23
          replace H := Option.bind_eq_some_iff.mp H
          obtain ⟨⟨t316, t317, t318, t319, t320, t321, t322, t323⟩, A310, H⟩ := H
          replace H : (if 0 ≤ (wrap64 ((x8_2.length : Int) - 1)) then (if (wrap64 ((x8_2.length : Int) - 1)) ≤ (x8_2.length : Int) then ((cmd_Check.f (x8_2.take ((wrap64 ((x8_2.length : Int) - 1)) : Int).toNat)).bind fun bt329 => ((cmd_Keys.f x8_2).bind fun t338 => (if t323 = true then (if bt329.2.2.2.2.2.2.2 = true then (caravanlaw4_CmdKeys.j2 k2 a1 x8_2 true t300 t301 t302 t303 t304 t305 t306) else (if ((t303 == 0) != ((t338.length : Int) == 0)) = true then (caravanlaw4_CmdKeys.j2 k2 a1 x8_2 true t300 t301 t302 t303 t304 t305 t306) else (if t303 > 0 then (if 0 < (t338.length : Int) then (caravanlaw4_CmdKeys.j2 k2 a1 x8_2 ((rdOf ByteArray.empty t338 0).toList != ([107, 49] : List UInt8)) t300 t301 t302 t303 t304 t305 t306) else (none)) else (caravanlaw4_CmdKeys.j2 k2 a1 x8_2 false t300 t301 t302 t303 t304 t305 t306)))) else (caravanlaw4_CmdKeys.j2 k2 a1 x8_2 true t300 t301 t302 t303 t304 t305 t306)))) else (none)) else (none)) = some r := H
          have A31 := Aside0.mk A310
          clear A310
          obtain ⟨ji32, hji32⟩ : ∃ j_ : Int, (wrap64 ((x8_2.length : Int) - 1)) = j_ := ⟨_, rfl⟩
          replace H : (if 0 ≤ (ji32) then (if (ji32) ≤ (x8_2.length : Int) then ((cmd_Check.f (x8_2.take ((ji32) : Int).toNat)).bind fun bt329 => ((cmd_Keys.f x8_2).bind fun t338 => (if t323 = true then (if bt329.2.2.2.2.2.2.2 = true then (caravanlaw4_CmdKeys.j2 k2 a1 x8_2 true t300 t301 t302 t303 t304 t305 t306) else (if ((t303 == 0) != ((t338.length : Int) == 0)) = true then (caravanlaw4_CmdKeys.j2 k2 a1 x8_2 true t300 t301 t302 t303 t304 t305 t306) else (if t303 > 0 then (if 0 < (t338.length : Int) then (caravanlaw4_CmdKeys.j2 k2 a1 x8_2 ((rdOf ByteArray.empty t338 0).toList != ([107, 49] : List UInt8)) t300 t301 t302 t303 t304 t305 t306) else (none)) else (caravanlaw4_CmdKeys.j2 k2 a1 x8_2 false t300 t301 t302 t303 t304 t305 t306)))) else (caravanlaw4_CmdKeys.j2 k2 a1 x8_2 true t300 t301 t302 t303 t304 t305 t306)))) else (none)) else (none)) = some r := by first | (rw [hji32] at H; exact H) | (simp only [hji32] at H ⊢; exact H)
          (try rw [hji32] at A31)
          have hji32w : (IntKind.i64.wrap ((x8_2.length : Int) - 1)) = ji32 := (i64_w _).trans hji32
          by_cases c33 : 0 ≤ (ji32)
          ·rw [if_pos c33] at H
           have c33b0 := eq_true c33
           have c33b1 : decide (0 ≤ (ji32)) = true := decide_eq_true c33
           clear c33
           by_cases c34 : (ji32) ≤ (x8_2.length : Int)
           ·rw [if_pos c34] at H
            have c34b0 := eq_true c34
            have c34b1 : decide ((ji32) ≤ (x8_2.length : Int)) = true := decide_eq_true c34
            clear c34
            obtain ⟨y325, hy325⟩ : ∃ y_ : List ByteArray, y_ = (x8_2.take ((ji32) : Int).toNat) := ⟨_, rfl⟩
            replace H : ((cmd_Check.f y325).bind fun bt329 => ((cmd_Keys.f x8_2).bind fun t338 => (if t323 = true then (if bt329.2.2.2.2.2.2.2 = true then (caravanlaw4_CmdKeys.j2 k2 a1 x8_2 true t300 t301 t302 t303 t304 t305 t306) else (if ((t303 == 0) != ((t338.length : Int) == 0)) = true then (caravanlaw4_CmdKeys.j2 k2 a1 x8_2 true t300 t301 t302 t303 t304 t305 t306) else (if t303 > 0 then (if 0 < (t338.length : Int) then (caravanlaw4_CmdKeys.j2 k2 a1 x8_2 ((rdOf ByteArray.empty t338 0).toList != ([107, 49] : List UInt8)) t300 t301 t302 t303 t304 t305 t306) else (none)) else (caravanlaw4_CmdKeys.j2 k2 a1 x8_2 false t300 t301 t302 t303 t304 t305 t306)))) else (caravanlaw4_CmdKeys.j2 k2 a1 x8_2 true t300 t301 t302 t303 t304 t305 t306)))) = some r := by first | (rw [hy325]; with_reducible exact H) | (have H2_ := (Option.bind_some _ _).symm.trans H; rw [hy325]; with_reducible exact H2_) | (have H2_ := (Option.bind_some _ _).symm.trans H; with_reducible exact H2_) | with_reducible exact H | (rw [hy325]; exact H) | exact H
            have Ny325 := Aside0.mk hy325
            clear hy325
            replace H := Option.bind_eq_some_iff.mp H
            obtain ⟨⟨t329, t330, t331, t332, t333, t334, t335, t336⟩, A350, H⟩ := H
            replace H : ((cmd_Keys.f x8_2).bind fun t338 => (if t323 = true then (if t336 = true then (caravanlaw4_CmdKeys.j2 k2 a1 x8_2 true t300 t301 t302 t303 t304 t305 t306) else (if ((t303 == 0) != ((t338.length : Int) == 0)) = true then (caravanlaw4_CmdKeys.j2 k2 a1 x8_2 true t300 t301 t302 t303 t304 t305 t306) else (if t303 > 0 then (if 0 < (t338.length : Int) then (caravanlaw4_CmdKeys.j2 k2 a1 x8_2 ((rdOf ByteArray.empty t338 0).toList != ([107, 49] : List UInt8)) t300 t301 t302 t303 t304 t305 t306) else (none)) else (caravanlaw4_CmdKeys.j2 k2 a1 x8_2 false t300 t301 t302 t303 t304 t305 t306)))) else (caravanlaw4_CmdKeys.j2 k2 a1 x8_2 true t300 t301 t302 t303 t304 t305 t306))) = some r := H
            have A35 := Aside0.mk A350
            clear A350
            replace H := Option.bind_eq_some_iff.mp H
            obtain ⟨t338, A360, H⟩ := H
            replace H : (if t323 = true then (if t336 = true then (caravanlaw4_CmdKeys.j2 k2 a1 x8_2 true t300 t301 t302 t303 t304 t305 t306) else (if ((t303 == 0) != ((t338.length : Int) == 0)) = true then (caravanlaw4_CmdKeys.j2 k2 a1 x8_2 true t300 t301 t302 t303 t304 t305 t306) else (if t303 > 0 then (if 0 < (t338.length : Int) then (caravanlaw4_CmdKeys.j2 k2 a1 x8_2 ((rdOf ByteArray.empty t338 0).toList != ([107, 49] : List UInt8)) t300 t301 t302 t303 t304 t305 t306) else (none)) else (caravanlaw4_CmdKeys.j2 k2 a1 x8_2 false t300 t301 t302 t303 t304 t305 t306)))) else (caravanlaw4_CmdKeys.j2 k2 a1 x8_2 true t300 t301 t302 t303 t304 t305 t306)) = some r := H
            have A36 := Aside0.mk A360
            clear A360
            have HC37 := Aside0.mk H
            clear H
            obtain ⟨Ao38, co38, eo38⟩ := Kd.R_slice HO_8.out
            subst eo38
            have hcz39_0 : wr.cell? ⟨gb308, 0, none⟩ = some (.string t300) := (blk_cell BK308.out 0).trans rfl
            have hcz39_1 : wr.cell? ⟨gb308, 1, none⟩ = some (.int .i64 t301) := (blk_cell BK308.out 1).trans rfl
            have hcz39_2 : wr.cell? ⟨gb308, 2, none⟩ = some (.int .i64 t302) := (blk_cell BK308.out 2).trans rfl
            have hcz39_3 : wr.cell? ⟨gb308, 3, none⟩ = some (.int .i64 t303) := (blk_cell BK308.out 3).trans rfl
            have hcz39_4 : wr.cell? ⟨gb308, 4, none⟩ = some (.int .i64 t304) := (blk_cell BK308.out 4).trans rfl
            have hcz39_5 : wr.cell? ⟨gb308, 5, none⟩ = some (.int .i64 t305) := (blk_cell BK308.out 5).trans rfl
            have hcz39_6 : wr.cell? ⟨gb308, 6, none⟩ = some (.bool t306) := (blk_cell BK308.out 6).trans rfl
            have hfz39_0 := blk_frozen BK308.out 0
            have hfz39_1 := blk_frozen BK308.out 1
            have hfz39_2 := blk_frozen BK308.out 2
            have hfz39_3 := blk_frozen BK308.out 3
            have hfz39_4 := blk_frozen BK308.out 4
            have hfz39_5 := blk_frozen BK308.out 5
            have hfz39_6 := blk_frozen BK308.out 6
            go_upto_region 13 with (first | ((with_reducible refine gate_callee (f := 9) rfl ?_); refine goesL_ (some 67) rfl rfl Try.func9 (by kernel_rfl) rfl #[.slice Ao38 x8_2.length co38] rfl qM_ ?_; (with_reducible refine (cmd_Check.calls _ _ x8_2 t316 t317 t318 t319 t320 t321 t322 t323 _ ?side1 ?side2 A31.out).mono ?_); (case side1 => exact qC_ ((Kd.R_reads' HO_8.out).2.2)); (case side2 => exact (Kd.R_reads' HO_8.out).2.1); rintro e w40 ⟨rfl, hb⟩; refine ⟨_, rfl, ?_⟩; have n0_ := Aside0.mk (Kd.R_below (q8524_ HO_8.out) hb); have n1_ := Aside0.mk (blk_below (g := gb308) (o := .cells #[.string t300, .int .i64 t301, .int .i64 t302, .int .i64 t303, .int .i64 t304, .int .i64 t305, .bool t306] 26 (0, 0)) (q1466_ BK308.out) hb); have n2_ := Aside0.mk (below_step (qed14_ HB.out GE308.out) hb); clear HO_8; clear BK308; clear HB; have HO_8 := n0_; have BK308 := n1_; have HB := n2_; clear n0_ n1_ n2_; (try clear hb); (try clear hb2); (try clear hk); (try clear hi)) | ((with_reducible refine gate_dst (N := 9) rfl ?_); (try (refine gate_guard (by rfl) ?_; dsimp only)); refine box_event ?hg (N := 9) ?hd (cs := #[.string (⟨#[]⟩ : ByteArray), .int .i64 0, .int .i64 0, .int .i64 0, .int .i64 0, .int .i64 0, .bool false]) (t := 26) ?hr ?_; (case hd => rfl); (case hg => rfl); (case hr => first | (go_simp; done) | (go_simp; rfl)); intro gb324 hg w41 hbox hb; have n0_ := Aside0.mk (Kd.R_below (q8524_ HO_8.out) hb); have n1_ := Aside0.mk (blk_below (g := gb308) (o := .cells #[.string t300, .int .i64 t301, .int .i64 t302, .int .i64 t303, .int .i64 t304, .int .i64 t305, .bool t306] 26 (0, 0)) (q1466_ BK308.out) hb); have n2_ := Aside0.mk (below_step (qed14_ HB.out GE308.out) hb); have n3_ := Aside0.mk (hbox); have n4_ := Aside0.mk ((by rw [hg]; exact (below_size (qed14_ HB.out GE308.out)) : w.heap.size ≤ gb324)); have n5_ := Aside0.mk ((by rw [hg]; exact (below_size (qed14_ HB.out GE308.out)) : w.heap.size ≤ gb324)); have n6_ := Aside0.mk ((by rw [hg]; exact Nat.ne_of_lt (blk_lt (g := gb308) (o := .cells #[.string t300, .int .i64 t301, .int .i64 t302, .int .i64 t303, .int .i64 t304, .int .i64 t305, .bool t306] 26 (0, 0)) (q1466_ BK308.out)) : gb308 ≠ gb324)); have n7_ := Aside0.mk ((by rw [hg]; exact Nat.ne_of_gt (blk_lt (g := gb308) (o := .cells #[.string t300, .int .i64 t301, .int .i64 t302, .int .i64 t303, .int .i64 t304, .int .i64 t305, .bool t306] 26 (0, 0)) (q1466_ BK308.out)) : gb324 ≠ gb308)); clear HO_8; clear BK308; clear HB; have HO_8 := n0_; have BK308 := n1_; have HB := n2_; have BK324 := n3_; have GW324 := n4_; have GE324 := n5_; have NB308_324 := n6_; have NB324_308 := n7_; clear n0_ n1_ n2_ n3_ n4_ n5_ n6_ n7_; clear hb hbox hg; have hnb42 := NB324_308.out; have hnc42 := NB308_324.out; have hcz43_0 : w41.cell? ⟨gb324, 0, none⟩ = some (.string (⟨#[]⟩ : ByteArray)) := (blk_cell BK324.out 0).trans rfl; have hcz43_1 : w41.cell? ⟨gb324, 1, none⟩ = some (.int .i64 0) := (blk_cell BK324.out 1).trans rfl; have hcz43_2 : w41.cell? ⟨gb324, 2, none⟩ = some (.int .i64 0) := (blk_cell BK324.out 2).trans rfl; have hcz43_3 : w41.cell? ⟨gb324, 3, none⟩ = some (.int .i64 0) := (blk_cell BK324.out 3).trans rfl; have hcz43_4 : w41.cell? ⟨gb324, 4, none⟩ = some (.int .i64 0) := (blk_cell BK324.out 4).trans rfl; have hcz43_5 : w41.cell? ⟨gb324, 5, none⟩ = some (.int .i64 0) := (blk_cell BK324.out 5).trans rfl; have hcz43_6 : w41.cell? ⟨gb324, 6, none⟩ = some (.bool false) := (blk_cell BK324.out 6).trans rfl; have hfz43_0 := blk_frozen BK324.out 0; have hfz43_1 := blk_frozen BK324.out 1; have hfz43_2 := blk_frozen BK324.out 2; have hfz43_3 := blk_frozen BK324.out 3; have hfz43_4 := blk_frozen BK324.out 4; have hfz43_5 := blk_frozen BK324.out 5; have hfz43_6 := blk_frozen BK324.out 6) | ((with_reducible refine gate_store (t := 26) (p := 9) rfl ?_); refine store_event (t := 26) (p := 9) (v := ?vo_w44) (w1 := (((((((w41.setCell ⟨gb324, 0, none⟩ (.string t316)).setCell ⟨gb324, 1, none⟩ (.int .i64 t317)).setCell ⟨gb324, 2, none⟩ (.int .i64 t318)).setCell ⟨gb324, 3, none⟩ (.int .i64 t319)).setCell ⟨gb324, 4, none⟩ (.int .i64 t320)).setCell ⟨gb324, 5, none⟩ (.int .i64 t321)).setCell ⟨gb324, 6, none⟩ (.bool t322))) ?hg ?ho ?hn ?hr ?_; (case ho => rfl); (case hg => rfl); (case hn => rfl); (case hr => first | (go_simp; done) | (go_simp; rfl)); intro w44 hw; have n0_ : Aside0 (Kd.R Kd.string 9 w44 w.heap.size (fun _ => True) (.slice Ao38 x8_2.length co38) x8_2) := ⟨(by rw [hw]; exact (by (with_reducible repeat (first | apply Kd.R_alloc | apply Kd.R_drewN | apply Kd.R_drew)); exact Kd.R_mono (Kd.R_far (p := ⟨gb324, 6, none⟩) (Kd.R_far (p := ⟨gb324, 5, none⟩) (Kd.R_far (p := ⟨gb324, 4, none⟩) (Kd.R_far (p := ⟨gb324, 3, none⟩) (Kd.R_far (p := ⟨gb324, 2, none⟩) (Kd.R_far (p := ⟨gb324, 1, none⟩) (Kd.R_far (p := ⟨gb324, 0, none⟩) (Kd.R_types HO_8.out BK324.out (by decide)) (fun _ hk => hk.2) (.string t316)) (fun _ hk => hk.2) (.int .i64 t317)) (fun _ hk => hk.2) (.int .i64 t318)) (fun _ hk => hk.2) (.int .i64 t319)) (fun _ hk => hk.2) (.int .i64 t320)) (fun _ hk => hk.2) (.int .i64 t321)) (fun _ hk => hk.2) (.bool t322)) (fun _ hk => trivial)))⟩; have n1_ : Aside0 (w44.heap[gb308]? = some (.cells #[.string t300, .int .i64 t301, .int .i64 t302, .int .i64 t303, .int .i64 t304, .int .i64 t305, .bool t306] 26 (0, 0))) := ⟨(by rw [hw]; exact (q34cc_ NB308_324.out BK308.out))⟩; have n2_ : Aside0 (w44.heap[gb324]? = some (.cells #[.string t316, .int .i64 t317, .int .i64 t318, .int .i64 t319, .int .i64 t320, .int .i64 t321, .bool t322] 26 (0, 0))) := ⟨(by rw [hw]; exact (by (with_reducible repeat (first | refine blk_drewN ?_ _ | refine blk_drew ?_ | refine blk_alloc ?_ _)); refine blk_put (cs := #[.string t316, .int .i64 t317, .int .i64 t318, .int .i64 t319, .int .i64 t320, .int .i64 t321, .bool false]) ?_ 6 _ rfl; (with_reducible repeat (first | refine blk_drewN ?_ _ | refine blk_drew ?_ | refine blk_alloc ?_ _)); refine blk_put (cs := #[.string t316, .int .i64 t317, .int .i64 t318, .int .i64 t319, .int .i64 t320, .int .i64 0, .bool false]) ?_ 5 _ rfl; (with_reducible repeat (first | refine blk_drewN ?_ _ | refine blk_drew ?_ | refine blk_alloc ?_ _)); refine blk_put (cs := #[.string t316, .int .i64 t317, .int .i64 t318, .int .i64 t319, .int .i64 0, .int .i64 0, .bool false]) ?_ 4 _ rfl; (with_reducible repeat (first | refine blk_drewN ?_ _ | refine blk_drew ?_ | refine blk_alloc ?_ _)); refine blk_put (cs := #[.string t316, .int .i64 t317, .int .i64 t318, .int .i64 0, .int .i64 0, .int .i64 0, .bool false]) ?_ 3 _ rfl; (with_reducible repeat (first | refine blk_drewN ?_ _ | refine blk_drew ?_ | refine blk_alloc ?_ _)); refine blk_put (cs := #[.string t316, .int .i64 t317, .int .i64 0, .int .i64 0, .int .i64 0, .int .i64 0, .bool false]) ?_ 2 _ rfl; (with_reducible repeat (first | refine blk_drewN ?_ _ | refine blk_drew ?_ | refine blk_alloc ?_ _)); refine blk_put (cs := #[.string t316, .int .i64 0, .int .i64 0, .int .i64 0, .int .i64 0, .int .i64 0, .bool false]) ?_ 1 _ rfl; (with_reducible repeat (first | refine blk_drewN ?_ _ | refine blk_drew ?_ | refine blk_alloc ?_ _)); refine blk_put (cs := #[.string (⟨#[]⟩ : ByteArray), .int .i64 0, .int .i64 0, .int .i64 0, .int .i64 0, .int .i64 0, .bool false]) ?_ 0 _ rfl; (with_reducible repeat (first | refine blk_drewN ?_ _ | refine blk_drew ?_ | refine blk_alloc ?_ _)); exact BK324.out))⟩; have n3_ : Aside0 (Below w.heap.size w w44) := ⟨(by rw [hw]; exact (q8f57_ HB.out GE308.out GE324.out))⟩; clear hw; clear HO_8; clear BK308; clear BK324; clear HB; have HO_8 := n0_; have BK308 := n1_; have BK324 := n2_; have HB := n3_; clear n0_ n1_ n2_ n3_; have q45 : ((ji32) : Int) ≤ ((x8_2.length : Int) : Int) := of_decide_eq_true (by first | (with_reducible assumption) | assumption); obtain ⟨i045, hi045, _, hsz45, _⟩ := info_parts info9; have hroom45 : x8_2.length ≤ co38 := (Kd.R_reads' HO_8.out).2.1; have hC45 : Kd.C Kd.string _ Ao38 x8_2.length x8_2 := (Kd.R_reads' HO_8.out).2.2; have hcut45 := cut_to (P := Try.prog) 22 9 .i64 Try.underlying22 hi045 Ao38 x8_2.length co38 (ji32) (of_decide_eq_true (by first | (with_reducible assumption) | assumption)) q45 hroom45; have hr45 := Kd.C_take (m := ((ji32) : Int).toNat) hC45 (by omega); have hy45 : y325.length = ((ji32) : Int).toNat := (by rw [Ny325.out, List.length_take]; omega); rw [← Ny325.out] at hr45; rw [← hy45] at hcut45; have HR328 := Aside0.mk hr45; have HC328 := Aside0.mk (show y325.length ≤ co38 from by omega); clear hr45 hC45 hroom45 hi045 hsz45; have KY45 := Aside0.mk hy45; clear hy45; have KL45 := Aside0.mk (show ((ji32) : Int).toNat ≤ x8_2.length from by omega); replace q45 := eq_true q45) | ((with_reducible refine gate_callee (f := 9) rfl ?_); refine goesL_ (some 76) rfl rfl Try.func9 (by kernel_rfl) rfl #[.slice Ao38 y325.length co38] rfl qM_ ?_; (with_reducible refine (cmd_Check.calls _ _ y325 t329 t330 t331 t332 t333 t334 t335 t336 _ ?side1 ?side2 A35.out).mono ?_); (case side1 => repeat (first | exact (q3f7a_ HR328.out) | (with_reducible refine Kd.C_alloc ?_ _) | (with_reducible refine Kd.C_drewN ?_ _) | (with_reducible refine Kd.C_drew ?_))); (case side2 => exact HC328.out); rintro e w46 ⟨rfl, hb⟩; refine ⟨_, rfl, ?_⟩; have n0_ := Aside0.mk (Kd.R_below (q8524_ HO_8.out) hb); have n1_ := Aside0.mk (blk_below (g := gb308) (o := .cells #[.string t300, .int .i64 t301, .int .i64 t302, .int .i64 t303, .int .i64 t304, .int .i64 t305, .bool t306] 26 (0, 0)) (q1466_ BK308.out) hb); have n2_ := Aside0.mk (blk_below (g := gb324) (o := .cells #[.string t316, .int .i64 t317, .int .i64 t318, .int .i64 t319, .int .i64 t320, .int .i64 t321, .bool t322] 26 (0, 0)) (q1466_ BK324.out) hb); have n3_ := Aside0.mk (Kd.C_below (q3f7a_ HR328.out) hb); have n4_ := Aside0.mk (below_step (q8f57_ HB.out GE308.out GE324.out) hb); clear HO_8; clear BK308; clear BK324; clear HR328; clear HB; have HO_8 := n0_; have BK308 := n1_; have BK324 := n2_; have HR328 := n3_; have HB := n4_; clear n0_ n1_ n2_ n3_ n4_; (try clear hb); (try clear hb2); (try clear hk); (try clear hi)) | ((with_reducible refine gate_dst (N := 11) rfl ?_); (try (refine gate_guard (by rfl) ?_; dsimp only)); refine box_event ?hg (N := 11) ?hd (cs := #[.string (⟨#[]⟩ : ByteArray), .int .i64 0, .int .i64 0, .int .i64 0, .int .i64 0, .int .i64 0, .bool false]) (t := 26) ?hr ?_; (case hd => rfl); (case hg => rfl); (case hr => first | (go_simp; done) | (go_simp; rfl)); intro gb337 hg w47 hbox hb; have n0_ := Aside0.mk (Kd.R_below (q8524_ HO_8.out) hb); have n1_ := Aside0.mk (blk_below (g := gb308) (o := .cells #[.string t300, .int .i64 t301, .int .i64 t302, .int .i64 t303, .int .i64 t304, .int .i64 t305, .bool t306] 26 (0, 0)) (q1466_ BK308.out) hb); have n2_ := Aside0.mk (blk_below (g := gb324) (o := .cells #[.string t316, .int .i64 t317, .int .i64 t318, .int .i64 t319, .int .i64 t320, .int .i64 t321, .bool t322] 26 (0, 0)) (q1466_ BK324.out) hb); have n3_ := Aside0.mk (Kd.C_below (q3f7a_ HR328.out) hb); have n4_ := Aside0.mk (below_step (q8f57_ HB.out GE308.out GE324.out) hb); have n5_ := Aside0.mk (hbox); have n6_ := Aside0.mk ((by rw [hg]; exact (below_size (q8f57_ HB.out GE308.out GE324.out)) : w.heap.size ≤ gb337)); have n7_ := Aside0.mk ((by rw [hg]; exact (below_size (q8f57_ HB.out GE308.out GE324.out)) : w.heap.size ≤ gb337)); have n8_ := Aside0.mk ((by rw [hg]; exact Nat.ne_of_lt (blk_lt (g := gb308) (o := .cells #[.string t300, .int .i64 t301, .int .i64 t302, .int .i64 t303, .int .i64 t304, .int .i64 t305, .bool t306] 26 (0, 0)) (q1466_ BK308.out)) : gb308 ≠ gb337)); have n9_ := Aside0.mk ((by rw [hg]; exact Nat.ne_of_gt (blk_lt (g := gb308) (o := .cells #[.string t300, .int .i64 t301, .int .i64 t302, .int .i64 t303, .int .i64 t304, .int .i64 t305, .bool t306] 26 (0, 0)) (q1466_ BK308.out)) : gb337 ≠ gb308)); have n10_ := Aside0.mk ((by rw [hg]; exact Nat.ne_of_lt (blk_lt (g := gb324) (o := .cells #[.string t316, .int .i64 t317, .int .i64 t318, .int .i64 t319, .int .i64 t320, .int .i64 t321, .bool t322] 26 (0, 0)) (q1466_ BK324.out)) : gb324 ≠ gb337)); have n11_ := Aside0.mk ((by rw [hg]; exact Nat.ne_of_gt (blk_lt (g := gb324) (o := .cells #[.string t316, .int .i64 t317, .int .i64 t318, .int .i64 t319, .int .i64 t320, .int .i64 t321, .bool t322] 26 (0, 0)) (q1466_ BK324.out)) : gb337 ≠ gb324)); clear HO_8; clear BK308; clear BK324; clear HR328; clear HB; have HO_8 := n0_; have BK308 := n1_; have BK324 := n2_; have HR328 := n3_; have HB := n4_; have BK337 := n5_; have GW337 := n6_; have GE337 := n7_; have NB308_337 := n8_; have NB337_308 := n9_; have NB324_337 := n10_; have NB337_324 := n11_; clear n0_ n1_ n2_ n3_ n4_ n5_ n6_ n7_ n8_ n9_ n10_ n11_; clear hb hbox hg; have hnb48 := NB337_308.out; have hnc48 := NB308_337.out; have hnb49 := NB337_324.out; have hnc49 := NB324_337.out; have hcz50_0 : w47.cell? ⟨gb337, 0, none⟩ = some (.string (⟨#[]⟩ : ByteArray)) := (blk_cell BK337.out 0).trans rfl; have hcz50_1 : w47.cell? ⟨gb337, 1, none⟩ = some (.int .i64 0) := (blk_cell BK337.out 1).trans rfl; have hcz50_2 : w47.cell? ⟨gb337, 2, none⟩ = some (.int .i64 0) := (blk_cell BK337.out 2).trans rfl; have hcz50_3 : w47.cell? ⟨gb337, 3, none⟩ = some (.int .i64 0) := (blk_cell BK337.out 3).trans rfl; have hcz50_4 : w47.cell? ⟨gb337, 4, none⟩ = some (.int .i64 0) := (blk_cell BK337.out 4).trans rfl; have hcz50_5 : w47.cell? ⟨gb337, 5, none⟩ = some (.int .i64 0) := (blk_cell BK337.out 5).trans rfl; have hcz50_6 : w47.cell? ⟨gb337, 6, none⟩ = some (.bool false) := (blk_cell BK337.out 6).trans rfl; have hfz50_0 := blk_frozen BK337.out 0; have hfz50_1 := blk_frozen BK337.out 1; have hfz50_2 := blk_frozen BK337.out 2; have hfz50_3 := blk_frozen BK337.out 3; have hfz50_4 := blk_frozen BK337.out 4; have hfz50_5 := blk_frozen BK337.out 5; have hfz50_6 := blk_frozen BK337.out 6) | ((with_reducible refine gate_callee (f := 14) rfl ?_); refine goesL_ (some 80) rfl rfl Try.func14 (by kernel_rfl) rfl #[.slice Ao38 x8_2.length co38] rfl qM_ ?_; (with_reducible refine (cmd_Keys.calls _ _ x8_2 t338 _ ?side1 ?side2 A36.out).mono ?_); (case side1 => refine (Kd.R_reads' (e := 9) (base := w.heap.size) (ok := fun k_ => True) (n := x8_2.length) (c := co38) ?_).2.2; exact (by (with_reducible repeat (first | apply Kd.R_alloc | apply Kd.R_drewN | apply Kd.R_drew)); exact (Kd.R_mono (Kd.R_far (p := ⟨gb337, 6, none⟩) (Kd.R_far (p := ⟨gb337, 5, none⟩) (Kd.R_far (p := ⟨gb337, 4, none⟩) (Kd.R_far (p := ⟨gb337, 3, none⟩) (Kd.R_far (p := ⟨gb337, 2, none⟩) (Kd.R_far (p := ⟨gb337, 1, none⟩) (Kd.R_far (p := ⟨gb337, 0, none⟩) (Kd.R_types HO_8.out BK337.out (by decide)) (fun _ hk => hk.2) (.string t329)) (fun _ hk => hk.2) (.int .i64 t330)) (fun _ hk => hk.2) (.int .i64 t331)) (fun _ hk => hk.2) (.int .i64 t332)) (fun _ hk => hk.2) (.int .i64 t333)) (fun _ hk => hk.2) (.int .i64 t334)) (fun _ hk => hk.2) (.bool t335)) (fun _ h_ => h_.1)))); (case side2 => exact (Kd.R_reads' HO_8.out).2.1); rintro e w51 ⟨v339, rfl, ho0, hb⟩; refine ⟨_, rfl, ?_⟩; have n0_ := Aside0.mk (Kd.R_below (by (with_reducible repeat (first | apply Kd.R_alloc | apply Kd.R_drewN | apply Kd.R_drew)); exact (Kd.R_mono (Kd.R_far (p := ⟨gb337, 6, none⟩) (Kd.R_far (p := ⟨gb337, 5, none⟩) (Kd.R_far (p := ⟨gb337, 4, none⟩) (Kd.R_far (p := ⟨gb337, 3, none⟩) (Kd.R_far (p := ⟨gb337, 2, none⟩) (Kd.R_far (p := ⟨gb337, 1, none⟩) (Kd.R_far (p := ⟨gb337, 0, none⟩) (Kd.R_types HO_8.out BK337.out (by decide)) (fun _ hk => hk.2) (.string t329)) (fun _ hk => hk.2) (.int .i64 t330)) (fun _ hk => hk.2) (.int .i64 t331)) (fun _ hk => hk.2) (.int .i64 t332)) (fun _ hk => hk.2) (.int .i64 t333)) (fun _ hk => hk.2) (.int .i64 t334)) (fun _ hk => hk.2) (.bool t335)) (fun _ h_ => h_.1))) hb); have n1_ := Aside0.mk (Kd.V_lower (Kd.V_mono (ok' := fun k_ => some k_ ≠ (.slice Ao38 x8_2.length co38 : Value).ownBlock ∧ k_ ≠ gb308 ∧ k_ ≠ gb324 ∧ k_ ≠ gb337) ho0 (fun k_ hk_ => ⟨(Kd.fresh' (Kd.R_lt (by (with_reducible repeat (first | apply Kd.R_alloc | apply Kd.R_drewN | apply Kd.R_drew)); exact (Kd.R_mono (Kd.R_far (p := ⟨gb337, 6, none⟩) (Kd.R_far (p := ⟨gb337, 5, none⟩) (Kd.R_far (p := ⟨gb337, 4, none⟩) (Kd.R_far (p := ⟨gb337, 3, none⟩) (Kd.R_far (p := ⟨gb337, 2, none⟩) (Kd.R_far (p := ⟨gb337, 1, none⟩) (Kd.R_far (p := ⟨gb337, 0, none⟩) (Kd.R_types HO_8.out BK337.out (by decide)) (fun _ hk => hk.2) (.string t329)) (fun _ hk => hk.2) (.int .i64 t330)) (fun _ hk => hk.2) (.int .i64 t331)) (fun _ hk => hk.2) (.int .i64 t332)) (fun _ hk => hk.2) (.int .i64 t333)) (fun _ hk => hk.2) (.int .i64 t334)) (fun _ hk => hk.2) (.bool t335)) (fun _ h_ => h_.1)))) k_ hk_), (Kd.freshB (g := gb308) (o := .cells #[.string t300, .int .i64 t301, .int .i64 t302, .int .i64 t303, .int .i64 t304, .int .i64 t305, .bool t306] 26 (0, 0)) (q34cc_ NB308_337.out BK308.out) k_ hk_), (Kd.freshB (g := gb324) (o := .cells #[.string t316, .int .i64 t317, .int .i64 t318, .int .i64 t319, .int .i64 t320, .int .i64 t321, .bool t322] 26 (0, 0)) (q34cc_ NB324_337.out BK324.out) k_ hk_), (Kd.freshB (g := gb337) (o := .cells #[.string t329, .int .i64 t330, .int .i64 t331, .int .i64 t332, .int .i64 t333, .int .i64 t334, .bool t335] 26 (0, 0)) (by (with_reducible repeat (first | refine blk_drewN ?_ _ | refine blk_drew ?_ | refine blk_alloc ?_ _)); refine blk_put (cs := #[.string t329, .int .i64 t330, .int .i64 t331, .int .i64 t332, .int .i64 t333, .int .i64 t334, .bool false]) ?_ 6 _ rfl; (with_reducible repeat (first | refine blk_drewN ?_ _ | refine blk_drew ?_ | refine blk_alloc ?_ _)); refine blk_put (cs := #[.string t329, .int .i64 t330, .int .i64 t331, .int .i64 t332, .int .i64 t333, .int .i64 0, .bool false]) ?_ 5 _ rfl; (with_reducible repeat (first | refine blk_drewN ?_ _ | refine blk_drew ?_ | refine blk_alloc ?_ _)); refine blk_put (cs := #[.string t329, .int .i64 t330, .int .i64 t331, .int .i64 t332, .int .i64 0, .int .i64 0, .bool false]) ?_ 4 _ rfl; (with_reducible repeat (first | refine blk_drewN ?_ _ | refine blk_drew ?_ | refine blk_alloc ?_ _)); refine blk_put (cs := #[.string t329, .int .i64 t330, .int .i64 t331, .int .i64 0, .int .i64 0, .int .i64 0, .bool false]) ?_ 3 _ rfl; (with_reducible repeat (first | refine blk_drewN ?_ _ | refine blk_drew ?_ | refine blk_alloc ?_ _)); refine blk_put (cs := #[.string t329, .int .i64 t330, .int .i64 0, .int .i64 0, .int .i64 0, .int .i64 0, .bool false]) ?_ 2 _ rfl; (with_reducible repeat (first | refine blk_drewN ?_ _ | refine blk_drew ?_ | refine blk_alloc ?_ _)); refine blk_put (cs := #[.string t329, .int .i64 0, .int .i64 0, .int .i64 0, .int .i64 0, .int .i64 0, .bool false]) ?_ 1 _ rfl; (with_reducible repeat (first | refine blk_drewN ?_ _ | refine blk_drew ?_ | refine blk_alloc ?_ _)); refine blk_put (cs := #[.string (⟨#[]⟩ : ByteArray), .int .i64 0, .int .i64 0, .int .i64 0, .int .i64 0, .int .i64 0, .bool false]) ?_ 0 _ rfl; (with_reducible repeat (first | refine blk_drewN ?_ _ | refine blk_drew ?_ | refine blk_alloc ?_ _)); exact BK337.out) k_ hk_)⟩)) (below_size (q1dc4_ HB.out GE308.out GE324.out GE337.out))); have n2_ := Aside0.mk (blk_below (g := gb308) (o := .cells #[.string t300, .int .i64 t301, .int .i64 t302, .int .i64 t303, .int .i64 t304, .int .i64 t305, .bool t306] 26 (0, 0)) (q34cc_ NB308_337.out BK308.out) hb); have n3_ := Aside0.mk (blk_below (g := gb324) (o := .cells #[.string t316, .int .i64 t317, .int .i64 t318, .int .i64 t319, .int .i64 t320, .int .i64 t321, .bool t322] 26 (0, 0)) (q34cc_ NB324_337.out BK324.out) hb); have n4_ := Aside0.mk (blk_below (g := gb337) (o := .cells #[.string t329, .int .i64 t330, .int .i64 t331, .int .i64 t332, .int .i64 t333, .int .i64 t334, .bool t335] 26 (0, 0)) (by (with_reducible repeat (first | refine blk_drewN ?_ _ | refine blk_drew ?_ | refine blk_alloc ?_ _)); refine blk_put (cs := #[.string t329, .int .i64 t330, .int .i64 t331, .int .i64 t332, .int .i64 t333, .int .i64 t334, .bool false]) ?_ 6 _ rfl; (with_reducible repeat (first | refine blk_drewN ?_ _ | refine blk_drew ?_ | refine blk_alloc ?_ _)); refine blk_put (cs := #[.string t329, .int .i64 t330, .int .i64 t331, .int .i64 t332, .int .i64 t333, .int .i64 0, .bool false]) ?_ 5 _ rfl; (with_reducible repeat (first | refine blk_drewN ?_ _ | refine blk_drew ?_ | refine blk_alloc ?_ _)); refine blk_put (cs := #[.string t329, .int .i64 t330, .int .i64 t331, .int .i64 t332, .int .i64 0, .int .i64 0, .bool false]) ?_ 4 _ rfl; (with_reducible repeat (first | refine blk_drewN ?_ _ | refine blk_drew ?_ | refine blk_alloc ?_ _)); refine blk_put (cs := #[.string t329, .int .i64 t330, .int .i64 t331, .int .i64 0, .int .i64 0, .int .i64 0, .bool false]) ?_ 3 _ rfl; (with_reducible repeat (first | refine blk_drewN ?_ _ | refine blk_drew ?_ | refine blk_alloc ?_ _)); refine blk_put (cs := #[.string t329, .int .i64 t330, .int .i64 0, .int .i64 0, .int .i64 0, .int .i64 0, .bool false]) ?_ 2 _ rfl; (with_reducible repeat (first | refine blk_drewN ?_ _ | refine blk_drew ?_ | refine blk_alloc ?_ _)); refine blk_put (cs := #[.string t329, .int .i64 0, .int .i64 0, .int .i64 0, .int .i64 0, .int .i64 0, .bool false]) ?_ 1 _ rfl; (with_reducible repeat (first | refine blk_drewN ?_ _ | refine blk_drew ?_ | refine blk_alloc ?_ _)); refine blk_put (cs := #[.string (⟨#[]⟩ : ByteArray), .int .i64 0, .int .i64 0, .int .i64 0, .int .i64 0, .int .i64 0, .bool false]) ?_ 0 _ rfl; (with_reducible repeat (first | refine blk_drewN ?_ _ | refine blk_drew ?_ | refine blk_alloc ?_ _)); exact BK337.out) hb); have n5_ := Aside0.mk (below_step (q1dc4_ HB.out GE308.out GE324.out GE337.out) hb); clear HO_8; clear BK308; clear BK324; clear BK337; clear HB; have HO_8 := n0_; have HO340 := n1_; have BK308 := n2_; have BK324 := n3_; have BK337 := n4_; have HB := n5_; clear n0_ n1_ n2_ n3_ n4_ n5_; (try clear hb); (try clear hb2); (try clear hk); (try clear hi); (try clear ho0)))
            (try simp only [Act.put, List.setIfInBounds_toArray, List.set_cons_zero, List.set_cons_succ])
            go_cut [105] (fun v105 wc => ∃ (kq : Nat) (x105_36 : Bool), v105 = .bool x105_36 ∧ Aside0 (caravanlaw4_CmdKeys.j2 kq a1 x8_2 x105_36 t300 t301 t302 t303 t304 t305 t306 = some r) ∧ Aside0 (kq ≤ k2) ∧ Aside0 (Kd.R Kd.string 9 wc w.heap.size (fun _ => True) (.slice Ao38 x8_2.length co38) x8_2) ∧ Aside0 (wc.heap[gb308]? = some (.cells #[.string t300, .int .i64 t301, .int .i64 t302, .int .i64 t303, .int .i64 t304, .int .i64 t305, .bool t306] 26 (0, 0))) ∧ Aside0 (wc.heap[gb324]? = some (.cells #[.string t316, .int .i64 t317, .int .i64 t318, .int .i64 t319, .int .i64 t320, .int .i64 t321, .bool t322] 26 (0, 0))) ∧ Aside0 (wc.heap[gb337]? = some (.cells #[.string t329, .int .i64 t330, .int .i64 t331, .int .i64 t332, .int .i64 t333, .int .i64 t334, .bool t335] 26 (0, 0))) ∧ Aside0 (Below w.heap.size w wc))
            case first =>
             have H := HC37.out
             clear HC37
             by_cases c52 : t323 = true
             ·subst c52
              have H1 : (if t336 = true then (caravanlaw4_CmdKeys.j2 k2 a1 x8_2 true t300 t301 t302 t303 t304 t305 t306) else (if ((t303 == 0) != ((t338.length : Int) == 0)) = true then (caravanlaw4_CmdKeys.j2 k2 a1 x8_2 true t300 t301 t302 t303 t304 t305 t306) else (if t303 > 0 then (if 0 < (t338.length : Int) then (caravanlaw4_CmdKeys.j2 k2 a1 x8_2 ((rdOf ByteArray.empty t338 0).toList != ([107, 49] : List UInt8)) t300 t301 t302 t303 t304 t305 t306) else (none)) else (caravanlaw4_CmdKeys.j2 k2 a1 x8_2 false t300 t301 t302 t303 t304 t305 t306)))) = some r := by rw [if_pos rfl] at H; exact H
              clear H
              have H := H1
              clear H1
              by_cases c53 : t336 = true
              ·subst c53
               have H1 : (caravanlaw4_CmdKeys.j2 k2 a1 x8_2 true t300 t301 t302 t303 t304 t305 t306) = some r := by rw [if_pos rfl] at H; exact H
               clear H
               have H := H1
               clear H1
               have H' := Aside0.mk H
               clear H
               go_wp2
               go_meet
               case rel => exact ⟨_, (true), (by first | rfl | (simp; done) | (simp [*]; done)), H', ⟨by have := HJ8.out; have := HK2.out; first | omega | exact Nat.le_refl _⟩, ⟨by (with_reducible repeat (first | apply Kd.R_alloc | apply Kd.R_drewN | apply Kd.R_drew)); exact HO_8.out⟩, ⟨by (with_reducible repeat (first | refine blk_drewN ?_ _ | refine blk_drew ?_ | refine blk_alloc ?_ _)); exact BK308.out⟩, ⟨by (with_reducible repeat (first | refine blk_drewN ?_ _ | refine blk_drew ?_ | refine blk_alloc ?_ _)); exact BK324.out⟩, ⟨by (with_reducible repeat (first | refine blk_drewN ?_ _ | refine blk_drew ?_ | refine blk_alloc ?_ _)); exact BK337.out⟩, ⟨(q1dc4_ HB.out GE308.out GE324.out GE337.out)⟩⟩
              ·replace c53 := Bool.eq_false_iff.mpr c53
               subst c53
               have H1 : (if ((t303 == 0) != ((t338.length : Int) == 0)) = true then (caravanlaw4_CmdKeys.j2 k2 a1 x8_2 true t300 t301 t302 t303 t304 t305 t306) else (if t303 > 0 then (if 0 < (t338.length : Int) then (caravanlaw4_CmdKeys.j2 k2 a1 x8_2 ((rdOf ByteArray.empty t338 0).toList != ([107, 49] : List UInt8)) t300 t301 t302 t303 t304 t305 t306) else (none)) else (caravanlaw4_CmdKeys.j2 k2 a1 x8_2 false t300 t301 t302 t303 t304 t305 t306))) = some r := by rw [if_neg (show ¬ (false = true) by decide)] at H; exact H
               clear H
               have H := H1
               clear H1
               by_cases c54 : ((t303 == 0) != ((t338.length : Int) == 0)) = true
               ·rw [if_pos c54] at H
                have c54b0 : ((t303 == 0) != ((t338.length : Int) == 0)) = true := c54
                (try (have c54b1 : decide ((t303 == 0) = ((t338.length : Int) == 0)) = false := by simpa using c54))
                (try (have c54b2 : ((t303 == 0) == ((t338.length : Int) == 0)) = false := by simpa using c54))
                (try (have c54b3 : ¬ ((t303 == 0) = ((t338.length : Int) == 0)) := by simpa using c54))
                clear c54
                (first | rw [c54b0] | (simp only [i64_w, i32_w]; rw [c54b0]) | skip)
                have H' := Aside0.mk H
                clear H
                have hnb55 := NB308_324.out
                have hnc55 := NB324_308.out
                have hnb56 := NB308_337.out
                have hnc56 := NB337_308.out
                have hcz57_0 : w51.cell? ⟨gb308, 0, none⟩ = some (.string t300) := (blk_cell BK308.out 0).trans rfl
                have hcz57_1 : w51.cell? ⟨gb308, 1, none⟩ = some (.int .i64 t301) := (blk_cell BK308.out 1).trans rfl
                have hcz57_2 : w51.cell? ⟨gb308, 2, none⟩ = some (.int .i64 t302) := (blk_cell BK308.out 2).trans rfl
                have hcz57_3 : w51.cell? ⟨gb308, 3, none⟩ = some (.int .i64 t303) := (blk_cell BK308.out 3).trans rfl
                have hcz57_4 : w51.cell? ⟨gb308, 4, none⟩ = some (.int .i64 t304) := (blk_cell BK308.out 4).trans rfl
                have hcz57_5 : w51.cell? ⟨gb308, 5, none⟩ = some (.int .i64 t305) := (blk_cell BK308.out 5).trans rfl
                have hcz57_6 : w51.cell? ⟨gb308, 6, none⟩ = some (.bool t306) := (blk_cell BK308.out 6).trans rfl
                have hfz57_0 := blk_frozen BK308.out 0
                have hfz57_1 := blk_frozen BK308.out 1
                have hfz57_2 := blk_frozen BK308.out 2
                have hfz57_3 := blk_frozen BK308.out 3
                have hfz57_4 := blk_frozen BK308.out 4
                have hfz57_5 := blk_frozen BK308.out 5
                have hfz57_6 := blk_frozen BK308.out 6
                obtain ⟨Ao58, co58, eo58⟩ := Kd.V_slice HO340.out
                subst eo58
                go_wp2
                go_meet
                case rel => exact ⟨_, (true), (by first | rfl | (simp; done) | (simp [*]; done)), H', ⟨by have := HJ8.out; have := HK2.out; first | omega | exact Nat.le_refl _⟩, ⟨by (with_reducible repeat (first | apply Kd.R_alloc | apply Kd.R_drewN | apply Kd.R_drew)); exact HO_8.out⟩, ⟨by (with_reducible repeat (first | refine blk_drewN ?_ _ | refine blk_drew ?_ | refine blk_alloc ?_ _)); exact BK308.out⟩, ⟨by (with_reducible repeat (first | refine blk_drewN ?_ _ | refine blk_drew ?_ | refine blk_alloc ?_ _)); exact BK324.out⟩, ⟨by (with_reducible repeat (first | refine blk_drewN ?_ _ | refine blk_drew ?_ | refine blk_alloc ?_ _)); exact BK337.out⟩, ⟨(q1dc4_ HB.out GE308.out GE324.out GE337.out)⟩⟩
               ·rw [if_neg c54] at H
                have c54b0 : ((t303 == 0) != ((t338.length : Int) == 0)) = false := by simpa using c54
                (try (have c54b1 : decide ((t303 == 0) = ((t338.length : Int) == 0)) = true := by simpa using c54))
                (try (have c54b2 : ((t303 == 0) == ((t338.length : Int) == 0)) = true := by simpa using c54))
                clear c54
                (first | rw [c54b0] | (simp only [i64_w, i32_w]; rw [c54b0]) | skip)
                by_cases c59 : t303 > 0
                ·rw [if_pos c59] at H
                 have c59b0 : decide (0 < t303) = true := decide_eq_true c59
                 clear c59
                 by_cases c60 : 0 < (t338.length : Int)
                 ·rw [if_pos c60] at H
                  have c60b0 : decide (0 < (t338.length : Int)) = true := decide_eq_true c60
                  have c60b1 : decide (0 < t338.length) = true := decide_eq_true (by omega)
                  clear c60
                  have H' := Aside0.mk H
                  clear H
                  have hnb61 := NB308_324.out
                  have hnc61 := NB324_308.out
                  have hnb62 := NB308_337.out
                  have hnc62 := NB337_308.out
                  have hcz63_0 : w51.cell? ⟨gb308, 0, none⟩ = some (.string t300) := (blk_cell BK308.out 0).trans rfl
                  have hcz63_1 : w51.cell? ⟨gb308, 1, none⟩ = some (.int .i64 t301) := (blk_cell BK308.out 1).trans rfl
                  have hcz63_2 : w51.cell? ⟨gb308, 2, none⟩ = some (.int .i64 t302) := (blk_cell BK308.out 2).trans rfl
                  have hcz63_3 : w51.cell? ⟨gb308, 3, none⟩ = some (.int .i64 t303) := (blk_cell BK308.out 3).trans rfl
                  have hcz63_4 : w51.cell? ⟨gb308, 4, none⟩ = some (.int .i64 t304) := (blk_cell BK308.out 4).trans rfl
                  have hcz63_5 : w51.cell? ⟨gb308, 5, none⟩ = some (.int .i64 t305) := (blk_cell BK308.out 5).trans rfl
                  have hcz63_6 : w51.cell? ⟨gb308, 6, none⟩ = some (.bool t306) := (blk_cell BK308.out 6).trans rfl
                  have hfz63_0 := blk_frozen BK308.out 0
                  have hfz63_1 := blk_frozen BK308.out 1
                  have hfz63_2 := blk_frozen BK308.out 2
                  have hfz63_3 := blk_frozen BK308.out 3
                  have hfz63_4 := blk_frozen BK308.out 4
                  have hfz63_5 := blk_frozen BK308.out 5
                  have hfz63_6 := blk_frozen BK308.out 6
                  obtain ⟨Ao64, co64, eo64⟩ := Kd.V_slice HO340.out
                  subst eo64
                  have p341 : 0 ≤ (0 : Int) := (by omega)
                  have q341 : 0 < (t338.length : Int) := of_decide_eq_true (by first | (with_reducible assumption) | assumption)
                  obtain ⟨ad341, e341, hx341_0⟩ := Kd.at_string (Kd.V_reads' HO340.out).2.2 0 p341 q341
                  cases e341
                  have qi341 : (0 < t338.length) = True := eq_true (by omega)
                  (try rw [show ((0 : Int)).toNat = 0 from rfl] at hx341_0)
                  (try rw [Addr.add_zero'] at hx341_0)
                  replace p341 := eq_true p341
                  replace q341 := eq_true q341
                  go_wp2
                  go_meet
                  case rel => exact ⟨_, (((rdOf ByteArray.empty t338 0).toList != ([107, 49] : List UInt8))), (by first | rfl | (simp; done) | (simp [*]; done)), H', ⟨by have := HJ8.out; have := HK2.out; first | omega | exact Nat.le_refl _⟩, ⟨by (with_reducible repeat (first | apply Kd.R_alloc | apply Kd.R_drewN | apply Kd.R_drew)); exact HO_8.out⟩, ⟨by (with_reducible repeat (first | refine blk_drewN ?_ _ | refine blk_drew ?_ | refine blk_alloc ?_ _)); exact BK308.out⟩, ⟨by (with_reducible repeat (first | refine blk_drewN ?_ _ | refine blk_drew ?_ | refine blk_alloc ?_ _)); exact BK324.out⟩, ⟨by (with_reducible repeat (first | refine blk_drewN ?_ _ | refine blk_drew ?_ | refine blk_alloc ?_ _)); exact BK337.out⟩, ⟨(q1dc4_ HB.out GE308.out GE324.out GE337.out)⟩⟩
                 ·rw [if_neg c60] at H
                  exact absurd H (by simp)
                ·rw [if_neg c59] at H
                 have c59b0 : decide (0 < t303) = false := decide_eq_false c59
                 clear c59
                 have H' := Aside0.mk H
                 clear H
                 have hnb65 := NB308_324.out
                 have hnc65 := NB324_308.out
                 have hnb66 := NB308_337.out
                 have hnc66 := NB337_308.out
                 have hcz67_0 : w51.cell? ⟨gb308, 0, none⟩ = some (.string t300) := (blk_cell BK308.out 0).trans rfl
                 have hcz67_1 : w51.cell? ⟨gb308, 1, none⟩ = some (.int .i64 t301) := (blk_cell BK308.out 1).trans rfl
                 have hcz67_2 : w51.cell? ⟨gb308, 2, none⟩ = some (.int .i64 t302) := (blk_cell BK308.out 2).trans rfl
                 have hcz67_3 : w51.cell? ⟨gb308, 3, none⟩ = some (.int .i64 t303) := (blk_cell BK308.out 3).trans rfl
                 have hcz67_4 : w51.cell? ⟨gb308, 4, none⟩ = some (.int .i64 t304) := (blk_cell BK308.out 4).trans rfl
                 have hcz67_5 : w51.cell? ⟨gb308, 5, none⟩ = some (.int .i64 t305) := (blk_cell BK308.out 5).trans rfl
                 have hcz67_6 : w51.cell? ⟨gb308, 6, none⟩ = some (.bool t306) := (blk_cell BK308.out 6).trans rfl
                 have hfz67_0 := blk_frozen BK308.out 0
                 have hfz67_1 := blk_frozen BK308.out 1
                 have hfz67_2 := blk_frozen BK308.out 2
                 have hfz67_3 := blk_frozen BK308.out 3
                 have hfz67_4 := blk_frozen BK308.out 4
                 have hfz67_5 := blk_frozen BK308.out 5
                 have hfz67_6 := blk_frozen BK308.out 6
                 obtain ⟨Ao68, co68, eo68⟩ := Kd.V_slice HO340.out
                 subst eo68
                 go_wp2
                 go_meet
                 case rel => exact ⟨_, (false), (by first | rfl | (simp; done) | (simp [*]; done)), H', ⟨by have := HJ8.out; have := HK2.out; first | omega | exact Nat.le_refl _⟩, ⟨by (with_reducible repeat (first | apply Kd.R_alloc | apply Kd.R_drewN | apply Kd.R_drew)); exact HO_8.out⟩, ⟨by (with_reducible repeat (first | refine blk_drewN ?_ _ | refine blk_drew ?_ | refine blk_alloc ?_ _)); exact BK308.out⟩, ⟨by (with_reducible repeat (first | refine blk_drewN ?_ _ | refine blk_drew ?_ | refine blk_alloc ?_ _)); exact BK324.out⟩, ⟨by (with_reducible repeat (first | refine blk_drewN ?_ _ | refine blk_drew ?_ | refine blk_alloc ?_ _)); exact BK337.out⟩, ⟨(q1dc4_ HB.out GE308.out GE324.out GE337.out)⟩⟩
             ·replace c52 := Bool.eq_false_iff.mpr c52
              subst c52
              have H1 : (caravanlaw4_CmdKeys.j2 k2 a1 x8_2 true t300 t301 t302 t303 t304 t305 t306) = some r := by rw [if_neg (show ¬ (false = true) by decide)] at H; exact H
              clear H
              have H := H1
              clear H1
              have H' := Aside0.mk H
              clear H
              go_wp2
              go_meet
              case rel => exact ⟨_, (true), (by first | rfl | (simp; done) | (simp [*]; done)), H', ⟨by have := HJ8.out; have := HK2.out; first | omega | exact Nat.le_refl _⟩, ⟨by (with_reducible repeat (first | apply Kd.R_alloc | apply Kd.R_drewN | apply Kd.R_drew)); exact HO_8.out⟩, ⟨by (with_reducible repeat (first | refine blk_drewN ?_ _ | refine blk_drew ?_ | refine blk_alloc ?_ _)); exact BK308.out⟩, ⟨by (with_reducible repeat (first | refine blk_drewN ?_ _ | refine blk_drew ?_ | refine blk_alloc ?_ _)); exact BK324.out⟩, ⟨by (with_reducible repeat (first | refine blk_drewN ?_ _ | refine blk_drew ?_ | refine blk_alloc ?_ _)); exact BK337.out⟩, ⟨(q1dc4_ HB.out GE308.out GE324.out GE337.out)⟩⟩
            case rest =>
             clear HC37
             try clear c1
             try clear c2
             try clear p2
             try clear q2
             try clear hx2
             try clear c3
             try clear p3
             try clear q3
             try clear hx3
             try clear qi3
             try clear c4
             try clear c4b0
             try clear c4b1
             try clear c4b2
             try clear q4
             try clear c5
             try clear c6
             try clear c6b0
             try clear p6
             try clear c7
             try clear c7b0
             try clear c9
             try clear c11
             try clear c14
             try clear c15
             try clear c16
             try clear c16b0
             try clear c17
             try clear c19
             try clear c23
             try clear c23b0
             try clear c25
             try clear c25b0
             try clear c25b1
             try clear c25b2
             try clear c26
             try clear p29
             try clear q29
             try clear hx29
             try clear c33
             try clear c33b0
             try clear c33b1
             try clear c34
             try clear c34b0
             try clear c34b1
             try clear p34
             try clear q34
             try clear hx34
             try clear qi34
             try clear c42
             try clear q45
             try clear c48
             try clear c49
             try clear c52
             try clear c53
             try clear c54
             try clear c54b0
             try clear c54b1
             try clear c54b2
             try clear c55
             try clear c56
             try clear c59
             try clear c59b0
             try clear c60
             try clear c60b0
             try clear c60b1
             try clear c61
             try clear c62
             try clear p64
             try clear c65
             try clear c66
             try clear hcz14_0
             try clear hcz14_1
             try clear hcz14_2
             try clear hcz14_3
             try clear hcz14_4
             try clear hcz14_5
             try clear hcz14_6
             try clear hcz17_0
             try clear hcz17_1
             try clear hcz17_2
             try clear hcz17_3
             try clear hcz17_4
             try clear hcz17_5
             try clear hcz17_6
             try clear hcz18_0
             try clear hcz18_1
             try clear hcz18_2
             try clear hcz18_3
             try clear hcz18_4
             try clear hcz18_5
             try clear hcz18_6
             try clear hcz20_0
             try clear hcz20_1
             try clear hcz20_2
             try clear hcz20_3
             try clear hcz20_4
             try clear hcz20_5
             try clear hcz20_6
             try clear hcz28_0
             try clear hcz28_1
             try clear hcz28_2
             try clear hcz28_3
             try clear hcz28_4
             try clear hcz28_5
             try clear hcz28_6
             try clear hcz39_0
             try clear hcz39_1
             try clear hcz39_2
             try clear hcz39_3
             try clear hcz39_4
             try clear hcz39_5
             try clear hcz39_6
             try clear hcz43_0
             try clear hcz43_1
             try clear hcz43_2
             try clear hcz43_3
             try clear hcz43_4
             try clear hcz43_5
             try clear hcz43_6
             try clear hcz50_0
             try clear hcz50_1
             try clear hcz50_2
             try clear hcz50_3
             try clear hcz50_4
             try clear hcz50_5
             try clear hcz50_6
             try clear hcz57_0
             try clear hcz57_1
             try clear hcz57_2
             try clear hcz57_3
             try clear hcz57_4
             try clear hcz57_5
             try clear hcz57_6
             try clear hcz63_0
             try clear hcz63_1
             try clear hcz63_2
             try clear hcz63_3
             try clear hcz63_4
             try clear hcz63_5
             try clear hcz63_6
             try clear hcz67_0
             try clear hcz67_1
             try clear hcz67_2
             try clear hcz67_3
             try clear hcz67_4
             try clear hcz67_5
             try clear hcz67_6
             try clear hfz14_0
             try clear hfz14_1
             try clear hfz14_2
             try clear hfz14_3
             try clear hfz14_4
             try clear hfz14_5
             try clear hfz14_6
             try clear hfz17_0
             try clear hfz17_1
             try clear hfz17_2
             try clear hfz17_3
             try clear hfz17_4
             try clear hfz17_5
             try clear hfz17_6
             try clear hfz18_0
             try clear hfz18_1
             try clear hfz18_2
             try clear hfz18_3
             try clear hfz18_4
             try clear hfz18_5
             try clear hfz18_6
             try clear hfz20_0
             try clear hfz20_1
             try clear hfz20_2
             try clear hfz20_3
             try clear hfz20_4
             try clear hfz20_5
             try clear hfz20_6
             try clear hfz28_0
             try clear hfz28_1
             try clear hfz28_2
             try clear hfz28_3
             try clear hfz28_4
             try clear hfz28_5
             try clear hfz28_6
             try clear hfz39_0
             try clear hfz39_1
             try clear hfz39_2
             try clear hfz39_3
             try clear hfz39_4
             try clear hfz39_5
             try clear hfz39_6
             try clear hfz43_0
             try clear hfz43_1
             try clear hfz43_2
             try clear hfz43_3
             try clear hfz43_4
             try clear hfz43_5
             try clear hfz43_6
             try clear hfz50_0
             try clear hfz50_1
             try clear hfz50_2
             try clear hfz50_3
             try clear hfz50_4
             try clear hfz50_5
             try clear hfz50_6
             try clear hfz57_0
             try clear hfz57_1
             try clear hfz57_2
             try clear hfz57_3
             try clear hfz57_4
             try clear hfz57_5
             try clear hfz57_6
             try clear hfz63_0
             try clear hfz63_1
             try clear hfz63_2
             try clear hfz63_3
             try clear hfz63_4
             try clear hfz63_5
             try clear hfz63_6
             try clear hfz67_0
             try clear hfz67_1
             try clear hfz67_2
             try clear hfz67_3
             try clear hfz67_4
             try clear hfz67_5
             try clear hfz67_6
             try clear hx299_0
             try clear hx341_0
             try clear p2
             try clear p299
             try clear p341
             try clear p6
             try clear q2
             try clear q299
             try clear q341
             try clear q45
             obtain ⟨kq, x105_36, rfl, HA, HJ36, HO_8, BK308, BK324, BK337, HB⟩ := hcut
             cases kq with
             | zero => exact absurd HA.out (by simp [caravanlaw4_CmdKeys.j2])
             | succ kj36 =>
              have H := HA.out
              clear HA
              simp only [caravanlaw4_CmdKeys.j2] at H
              by_cases c69 : x105_36 = true
              ·subst c69
               have H1 : (some false) = some r := by rw [if_pos rfl] at H; exact H
               clear H
               have H := H1
               clear H1
               subst hrt_; exact absurd H (by simp)
              ·replace c69 := Bool.eq_false_iff.mpr c69
               subst c69
               have H1 : (if t303 > 0 then ((some (([] : List ByteArray) : List ByteArray)).bind fun y342 => (if y342.length + x8_2.length < 8796093022208 then ((some (y342 ++ x8_2 : List ByteArray)).bind fun y345 => (if 1 < (y345.length : Int) then ((some (y345.set (1 : Int).toNat (⟨#[48, 49, 50, 51, 52, 53, 54, 55, 56, 57, 48, 49, 50, 51, 52, 53, 54, 55, 56, 57, 48, 49, 50, 51, 52, 53, 54, 55, 56, 57, 48, 49, 50, 51, 52, 53, 54, 55, 56, 57, 120]⟩ : ByteArray) : List ByteArray)).bind fun y348 => ((cmd_Check.f y348).bind fun bt349 => (if bt349.2.2.2.2.2.2.2 = true then (some false) else ((cmd_Keys.f y348).bind fun t358 => (if (t358.length : Int) = 0 then (caravanlaw4_CmdKeys.j3 kj36 a1 x8_2 t300 t301 t302 t303 t304 t305 t306) else (some false)))))) else (none))) else (none))) else (caravanlaw4_CmdKeys.j3 kj36 a1 x8_2 t300 t301 t302 t303 t304 t305 t306)) = some r := by rw [if_neg (show ¬ (false = true) by decide)] at H; exact H
               clear H
               have H := H1
               clear H1
               have HC70 := Aside0.mk H
               clear H
               have hnb71 := NB308_324.out
               have hnc71 := NB324_308.out
               have hnb72 := NB308_337.out
               have hnc72 := NB337_308.out
               have hcz73_0 : wc.cell? ⟨gb308, 0, none⟩ = some (.string t300) := (blk_cell BK308.out 0).trans rfl
               have hcz73_1 : wc.cell? ⟨gb308, 1, none⟩ = some (.int .i64 t301) := (blk_cell BK308.out 1).trans rfl
               have hcz73_2 : wc.cell? ⟨gb308, 2, none⟩ = some (.int .i64 t302) := (blk_cell BK308.out 2).trans rfl
               have hcz73_3 : wc.cell? ⟨gb308, 3, none⟩ = some (.int .i64 t303) := (blk_cell BK308.out 3).trans rfl
               have hcz73_4 : wc.cell? ⟨gb308, 4, none⟩ = some (.int .i64 t304) := (blk_cell BK308.out 4).trans rfl
               have hcz73_5 : wc.cell? ⟨gb308, 5, none⟩ = some (.int .i64 t305) := (blk_cell BK308.out 5).trans rfl
               have hcz73_6 : wc.cell? ⟨gb308, 6, none⟩ = some (.bool t306) := (blk_cell BK308.out 6).trans rfl
               have hfz73_0 := blk_frozen BK308.out 0
               have hfz73_1 := blk_frozen BK308.out 1
               have hfz73_2 := blk_frozen BK308.out 2
               have hfz73_3 := blk_frozen BK308.out 3
               have hfz73_4 := blk_frozen BK308.out 4
               have hfz73_5 := blk_frozen BK308.out 5
               have hfz73_6 := blk_frozen BK308.out 6
               go_upto_if 108 with (fail)
               go_cut [] (fun wc => ∃ (kq : Nat) (x8_69 : List ByteArray), Aside0 (caravanlaw4_CmdKeys.j3 kq a1 x8_69 t300 t301 t302 t303 t304 t305 t306 = some r) ∧ Aside0 (kq ≤ kj36) ∧ Aside0 (Kd.R Kd.string 9 wc w.heap.size (fun _ => True) (.slice Ao38 x8_2.length co38) x8_69) ∧ Aside0 (wc.heap[gb308]? = some (.cells #[.string t300, .int .i64 t301, .int .i64 t302, .int .i64 t303, .int .i64 t304, .int .i64 t305, .bool t306] 26 (0, 0))) ∧ Aside0 (wc.heap[gb324]? = some (.cells #[.string t316, .int .i64 t317, .int .i64 t318, .int .i64 t319, .int .i64 t320, .int .i64 t321, .bool t322] 26 (0, 0))) ∧ Aside0 (wc.heap[gb337]? = some (.cells #[.string t329, .int .i64 t330, .int .i64 t331, .int .i64 t332, .int .i64 t333, .int .i64 t334, .bool t335] 26 (0, 0))) ∧ Aside0 (Below w.heap.size w wc))
               case first =>
                have H := HC70.out
                clear HC70
                by_cases c74 : t303 > 0
                ·rw [if_pos c74] at H
                 have c74b0 : decide (0 < t303) = true := decide_eq_true c74
                 clear c74
                 (first | rw [c74b0] | (simp only [i64_w, i32_w]; rw [c74b0]) | skip)
                 obtain ⟨y342, hy342⟩ : ∃ y_ : List ByteArray, y_ = (([] : List ByteArray)) := ⟨_, rfl⟩
                 replace H : (if y342.length + x8_2.length < 8796093022208 then ((some (y342 ++ x8_2 : List ByteArray)).bind fun y345 => (if 1 < (y345.length : Int) then ((some (y345.set (1 : Int).toNat (⟨#[48, 49, 50, 51, 52, 53, 54, 55, 56, 57, 48, 49, 50, 51, 52, 53, 54, 55, 56, 57, 48, 49, 50, 51, 52, 53, 54, 55, 56, 57, 48, 49, 50, 51, 52, 53, 54, 55, 56, 57, 120]⟩ : ByteArray) : List ByteArray)).bind fun y348 => ((cmd_Check.f y348).bind fun bt349 => (if bt349.2.2.2.2.2.2.2 = true then (some false) else ((cmd_Keys.f y348).bind fun t358 => (if (t358.length : Int) = 0 then (caravanlaw4_CmdKeys.j3 kj36 a1 x8_2 t300 t301 t302 t303 t304 t305 t306) else (some false)))))) else (none))) else (none)) = some r := by first | (rw [hy342]; with_reducible exact H) | (have H2_ := (Option.bind_some _ _).symm.trans H; rw [hy342]; with_reducible exact H2_) | (have H2_ := (Option.bind_some _ _).symm.trans H; with_reducible exact H2_) | with_reducible exact H | (rw [hy342]; exact H) | exact H
                 have Ny342 := Aside0.mk hy342
                 clear hy342
                 by_cases c75 : y342.length + x8_2.length < 8796093022208
                 ·rw [if_pos c75] at H
                  have LMc75 := Aside0.mk c75
                  clear c75
                  obtain ⟨y345, hy345⟩ : ∃ y_ : List ByteArray, y_ = (y342 ++ x8_2) := ⟨_, rfl⟩
                  replace H : (if 1 < (y345.length : Int) then ((some (y345.set (1 : Int).toNat (⟨#[48, 49, 50, 51, 52, 53, 54, 55, 56, 57, 48, 49, 50, 51, 52, 53, 54, 55, 56, 57, 48, 49, 50, 51, 52, 53, 54, 55, 56, 57, 48, 49, 50, 51, 52, 53, 54, 55, 56, 57, 120]⟩ : ByteArray) : List ByteArray)).bind fun y348 => ((cmd_Check.f y348).bind fun bt349 => (if bt349.2.2.2.2.2.2.2 = true then (some false) else ((cmd_Keys.f y348).bind fun t358 => (if (t358.length : Int) = 0 then (caravanlaw4_CmdKeys.j3 kj36 a1 x8_2 t300 t301 t302 t303 t304 t305 t306) else (some false)))))) else (none)) = some r := by first | (rw [hy345]; with_reducible exact H) | (have H2_ := (Option.bind_some _ _).symm.trans H; rw [hy345]; with_reducible exact H2_) | (have H2_ := (Option.bind_some _ _).symm.trans H; with_reducible exact H2_) | with_reducible exact H | (rw [hy345]; exact H) | exact H
                  have Ny345 := Aside0.mk hy345
                  clear hy345
                  by_cases c76 : 1 < (y345.length : Int)
                  ·rw [if_pos c76] at H
                   have c76b0 : decide (1 < (y345.length : Int)) = true := decide_eq_true c76
                   have c76b1 : decide (1 < y345.length) = true := decide_eq_true (by omega)
                   clear c76
                   obtain ⟨y348, hy348⟩ : ∃ y_ : List ByteArray, y_ = (y345.set (1 : Int).toNat (⟨#[48, 49, 50, 51, 52, 53, 54, 55, 56, 57, 48, 49, 50, 51, 52, 53, 54, 55, 56, 57, 48, 49, 50, 51, 52, 53, 54, 55, 56, 57, 48, 49, 50, 51, 52, 53, 54, 55, 56, 57, 120]⟩ : ByteArray)) := ⟨_, rfl⟩
                   replace H : ((cmd_Check.f y348).bind fun bt349 => (if bt349.2.2.2.2.2.2.2 = true then (some false) else ((cmd_Keys.f y348).bind fun t358 => (if (t358.length : Int) = 0 then (caravanlaw4_CmdKeys.j3 kj36 a1 x8_2 t300 t301 t302 t303 t304 t305 t306) else (some false))))) = some r := by first | (rw [hy348]; with_reducible exact H) | (have H2_ := (Option.bind_some _ _).symm.trans H; rw [hy348]; with_reducible exact H2_) | (have H2_ := (Option.bind_some _ _).symm.trans H; with_reducible exact H2_) | with_reducible exact H | (rw [hy348]; exact H) | exact H
                   have Ny348 := Aside0.mk hy348
                   clear hy348
                   replace H := Option.bind_eq_some_iff.mp H
                   obtain ⟨⟨t349, t350, t351, t352, t353, t354, t355, t356⟩, A780, H⟩ := H
                   replace H : (if t356 = true then (some false) else ((cmd_Keys.f y348).bind fun t358 => (if (t358.length : Int) = 0 then (caravanlaw4_CmdKeys.j3 kj36 a1 x8_2 t300 t301 t302 t303 t304 t305 t306) else (some false)))) = some r := H
                   have A78 := Aside0.mk A780
                   clear A780
                   by_cases c79 : t356 = true
                   ·subst c79
                    have H1 : (some false) = some r := by rw [if_pos rfl] at H; exact H
                    clear H
                    have H := H1
                    clear H1
                    subst hrt_; exact absurd H (by simp)
                   ·replace c79 := Bool.eq_false_iff.mpr c79
                    subst c79
                    have H1 : ((cmd_Keys.f y348).bind fun t358 => (if (t358.length : Int) = 0 then (caravanlaw4_CmdKeys.j3 kj36 a1 x8_2 t300 t301 t302 t303 t304 t305 t306) else (some false))) = some r := by rw [if_neg (show ¬ (false = true) by decide)] at H; exact H
                    clear H
                    have H := H1
                    clear H1
                    replace H := Option.bind_eq_some_iff.mp H
                    obtain ⟨t358, A800, H⟩ := H
                    replace H : (if (t358.length : Int) = 0 then (caravanlaw4_CmdKeys.j3 kj36 a1 x8_2 t300 t301 t302 t303 t304 t305 t306) else (some false)) = some r := H
                    have A80 := Aside0.mk A800
                    clear A800
                    by_cases c81 : (t358.length : Int) = 0
                    ·rw [if_pos c81] at H
                     have c81b0 : ((t358.length : Int) == 0) = true := beq_iff_eq.mpr c81
                     have c81b1 : ((t358.length : Int) != 0) = false := bne_eq_false_iff_eq.mpr c81
                     clear c81
                     have H' := Aside0.mk H
                     clear H
                     go_wp2_with (first | ((with_reducible refine gate_dst (N := 109) rfl ?_); (try (refine gate_guard (by rfl) ?_; dsimp only)); refine Kd.R_lit Kd.string _ 9 ?hg (N := 109) ?hd (xs := ([] : List ByteArray)) (inner := []) (ok := fun _ => True) (okp := fun _ => True) ?hr ?hp (fun _ hk => hk) trivial (Below.refl _ _) (Nat.le_refl _) (by simp) ?_; (case hd => rfl); (case hg => rfl); (case hr => first | (go_simp; done) | (go_simp; rfl)); (case hp => exact (Reps.none _ _)); intro v343 w82 ho83 hb hg_ hnew_; clear hg_ hnew_; (first | rw [← Ny342.out] at ho83 | (simp only [Int.reduceToNat] at ho83; rw [← Ny342.out] at ho83)); have n0_ := Aside0.mk (Kd.R_elder' (q8524_ HO_8.out) (Kd.R_base ho83) hb); have n1_ := Aside0.mk (Kd.R_lower (Kd.R_new' ho83 (Kd.R_lt (q8524_ HO_8.out))) (below_size (q1dc4_ HB.out GE308.out GE324.out GE337.out))); have n2_ := Aside0.mk (blk_below (g := gb308) (o := .cells #[.string t300, .int .i64 t301, .int .i64 t302, .int .i64 t303, .int .i64 t304, .int .i64 t305, .bool t306] 26 (0, 0)) (q1466_ BK308.out) hb); have n3_ := Aside0.mk (blk_below (g := gb324) (o := .cells #[.string t316, .int .i64 t317, .int .i64 t318, .int .i64 t319, .int .i64 t320, .int .i64 t321, .bool t322] 26 (0, 0)) (q1466_ BK324.out) hb); have n4_ := Aside0.mk (blk_below (g := gb337) (o := .cells #[.string t329, .int .i64 t330, .int .i64 t331, .int .i64 t332, .int .i64 t333, .int .i64 t334, .bool t335] 26 (0, 0)) (q1466_ BK337.out) hb); have n5_ := Aside0.mk (below_step (q1dc4_ HB.out GE308.out GE324.out GE337.out) hb); clear HO_8; clear BK308; clear BK324; clear BK337; clear HB; have HO_8 := n0_; have HO344 := n1_; have BK308 := n2_; have BK324 := n3_; have BK337 := n4_; have HB := n5_; clear n0_ n1_ n2_ n3_ n4_ n5_; clear hb ho83) | ((with_reducible refine gate_builtin (b := .append) (xs := #[.tmp 109, .tmp 110]) rfl ?_); (try (refine gate_guard (by rfl) ?_; dsimp only)); at_builtin; refine Kd.R_append_rows Kd.string (w0 := w) w.heap.size rfl (.tmp 109) (.tmp 110) 22 9 (.string ⟨#[]⟩) 16 rfl Try.underlying22 info9 rfl (by decide) (by omega) v343 y342 x8_2 _ _ _ (fun k_ => some k_ ≠ (.slice Ao38 x8_2.length co38 : Value).ownBlock) (fun _ => False) rfl rfl ?aO ?aR (fun _ _ h => h) (fun _ h => h.elim) ?aF ?aB ?aS ?aL ?_; (case aR => repeat (first | exact (Kd.R_reads' HO_8.out).2.2 | (with_reducible refine Kd.C_alloc ?_ _) | (with_reducible refine Kd.C_drewN ?_ _) | (with_reducible refine Kd.C_drew ?_))); (case aB => exact (q1dc4_ HB.out GE308.out GE324.out GE337.out)); (case aF => exact (fun k_ hk => Kd.fresh' (Kd.R_lt (q8524_ HO_8.out)) k_ hk)); (case aO => exact (qaa69_ HO344.out)); (case aS => exact (below_size (q1dc4_ HB.out GE308.out GE324.out GE337.out))); (case aL => have := LMc75.out; omega); intro v346 w84 ho hb hg hat; rw [← Ny345.out] at ho; have n0_ := Aside0.mk (Kd.R_after (ok := (fun _ => True)) (q8524_ HO_8.out) hg hat); have n1_ := Aside0.mk (blk_grown (g := gb308) (o := .cells #[.string t300, .int .i64 t301, .int .i64 t302, .int .i64 t303, .int .i64 t304, .int .i64 t305, .bool t306] 26 (0, 0)) (q1466_ BK308.out) hg (Kd.R_ne HO344.out BK308.out (by decide))); have n2_ := Aside0.mk (blk_grown (g := gb324) (o := .cells #[.string t316, .int .i64 t317, .int .i64 t318, .int .i64 t319, .int .i64 t320, .int .i64 t321, .bool t322] 26 (0, 0)) (q1466_ BK324.out) hg (Kd.R_ne HO344.out BK324.out (by decide))); have n3_ := Aside0.mk (blk_grown (g := gb337) (o := .cells #[.string t329, .int .i64 t330, .int .i64 t331, .int .i64 t332, .int .i64 t333, .int .i64 t334, .bool t335] 26 (0, 0)) (q1466_ BK337.out) hg (Kd.R_ne HO344.out BK337.out (by decide))); have n4_ := Aside0.mk (hb); have n5_ := Aside0.mk (ho); clear HO_8; clear BK308; clear BK324; clear BK337; clear HB; clear HO344; have HO_8 := n0_; have BK308 := n1_; have BK324 := n2_; have BK337 := n3_; have HB := n4_; have HO347 := n5_; clear n0_ n1_ n2_ n3_ n4_ n5_; clear ho hb hg hat; have p77 : 0 ≤ (1 : Int) := (by omega); have q77 : (1 : Int) < ((y345.length : Int) : Int) := of_decide_eq_true (by first | (with_reducible assumption) | assumption); have qi77 : (1 < y345.length) = True := eq_true (by omega); obtain ⟨go77, co77, eo77, gb77, gl77, cl77, HG77⟩ := Kd.R_form HO347.out (by omega); (first | cases eo77 | (injection eo77 with ea_ en_ ec_; (first | subst ea_ | (injection ea_ with ea_; subst ea_)); subst ec_; clear en_)); have GB77 := Aside0.mk gb77; have GG77 := Aside0.mk HG77; clear gb77 gl77 HG77; obtain ⟨hx77_0, hf77_0⟩ := Kd.R_celln (⟨#[]⟩ : ByteArray) HO347.out (1 : Int) p77 q77; (try rw [show ((1 : Int)).toNat = 1 from rfl] at hx77_0); (try simp only [Nat.reduceMul, Nat.zero_mul, Nat.zero_add, Nat.reduceAdd] at hx77_0); (try rw [show ((1 : Int)).toNat = 1 from rfl] at hf77_0); (try simp only [Nat.reduceMul, Nat.zero_mul, Nat.zero_add, Nat.reduceAdd] at hf77_0); replace p77 := eq_true p77; replace q77 := eq_true q77; obtain ⟨hy85_, hz85_⟩ := Kd.R_celln (⟨#[]⟩ : ByteArray) HO347.out (1 : Int) (by omega) (of_decide_eq_true (by first | (with_reducible assumption) | assumption)); (try simp only [Int.reduceToNat, Int.toNat_zero, Int.toNat_ofNat, Nat.reduceMul, Nat.zero_mul, Nat.zero_add] at hy85_ hz85_); (try rw [show ((1 : Int)).toNat = 1 from rfl] at hy85_); (try rw [show ((1 : Int)).toNat = 1 from rfl] at hz85_); have HP85 := Kd.R_putg HO347.out (1 : Int) (⟨#[48, 49, 50, 51, 52, 53, 54, 55, 56, 57, 48, 49, 50, 51, 52, 53, 54, 55, 56, 57, 48, 49, 50, 51, 52, 53, 54, 55, 56, 57, 48, 49, 50, 51, 52, 53, 54, 55, 56, 57, 120]⟩ : ByteArray)) | ((with_reducible refine gate_store (t := 9) (p := 113) rfl ?_); refine store_event (t := 9) (p := 113) (v := ?vo_w86) (w1 := (w84.setCell ⟨go77, (1 : Int).toNat, none⟩ (.string (⟨#[48, 49, 50, 51, 52, 53, 54, 55, 56, 57, 48, 49, 50, 51, 52, 53, 54, 55, 56, 57, 48, 49, 50, 51, 52, 53, 54, 55, 56, 57, 48, 49, 50, 51, 52, 53, 54, 55, 56, 57, 120]⟩ : ByteArray)))) ?hg ?ho ?hn ?hr ?_; (case ho => rfl); (case hg => rfl); (case hn => rfl); (case hr => first | (go_simp; done) | (go_simp; rfl)); intro w86 hw; have hg : w84.grownBy w86 (some go77) := (by rw [hw]; exact HP85.2); have hp_ : Kd.R Kd.string 9 w86 w.heap.size (fun k_ => some k_ ≠ (.slice Ao38 x8_2.length co38 : Value).ownBlock) (.slice (some ⟨go77, 0, none⟩) y345.length co77) y348 := (by rw [hw, Ny348.out]; exact HP85.1); clear HP85; have n0_ := Aside0.mk (Kd.R_after (v := (.slice (some ⟨go77, 0, none⟩) y345.length co77)) (v1 := (.slice (some ⟨go77, 0, none⟩) y345.length co77)) (ok := (fun _ => True)) (q8524_ HO_8.out) hg (.inl rfl)); have n1_ := Aside0.mk (blk_grown (g := gb308) (o := .cells #[.string t300, .int .i64 t301, .int .i64 t302, .int .i64 t303, .int .i64 t304, .int .i64 t305, .bool t306] 26 (0, 0)) (q1466_ BK308.out) hg (Kd.R_ne HO347.out BK308.out (by decide))); have n2_ := Aside0.mk (blk_grown (g := gb324) (o := .cells #[.string t316, .int .i64 t317, .int .i64 t318, .int .i64 t319, .int .i64 t320, .int .i64 t321, .bool t322] 26 (0, 0)) (q1466_ BK324.out) hg (Kd.R_ne HO347.out BK324.out (by decide))); have n3_ := Aside0.mk (blk_grown (g := gb337) (o := .cells #[.string t329, .int .i64 t330, .int .i64 t331, .int .i64 t332, .int .i64 t333, .int .i64 t334, .bool t335] 26 (0, 0)) (q1466_ BK337.out) hg (Kd.R_ne HO347.out BK337.out (by decide))); have n4_ := Aside0.mk (hp_); have n5_ := Aside0.mk ((by rw [hw]; exact below_set (HB.out) GB77.out : Below w.heap.size w w86)); clear HO_8; clear BK308; clear BK324; clear BK337; clear HO347; clear HB; have HO_8 := n0_; have BK308 := n1_; have BK324 := n2_; have BK337 := n3_; have HO347 := n4_; have HB := n5_; clear n0_ n1_ n2_ n3_ n4_ n5_; clear hg hw hp_) | ((with_reducible refine gate_callee (f := 9) rfl ?_); refine goesL_ (some 116) rfl rfl Try.func9 (by kernel_rfl) rfl #[.slice (some ⟨go77, 0, none⟩) y348.length co77] rfl (by (try simp only [List.map_toArray, List.map_cons, List.map_nil]); first | done | (rw [show y348.length = y345.length from (Kd.R_reads' HO347.out).1.symm] <;> rfl) | rfl | (simp only [List.length_drop, List.length_take]; rfl)) ?_; (with_reducible refine (cmd_Check.calls _ _ y348 t349 t350 t351 t352 t353 t354 t355 false _ ?side1 ?side2 A78.out).mono ?_); (case side1 => exact qC_ ((Kd.R_reads' HO347.out).2.2)); (case side2 => rw [show y348.length = y345.length from (Kd.R_reads' HO347.out).1.symm]; exact (Kd.R_reads' HO347.out).2.1); rintro e w87 ⟨rfl, hb⟩; refine ⟨_, rfl, ?_⟩; have n0_ := Aside0.mk (Kd.R_below (q8524_ HO_8.out) hb); have n1_ := Aside0.mk (Kd.R_below (q8524_ HO347.out) hb); have n2_ := Aside0.mk (blk_below (g := gb308) (o := .cells #[.string t300, .int .i64 t301, .int .i64 t302, .int .i64 t303, .int .i64 t304, .int .i64 t305, .bool t306] 26 (0, 0)) (q1466_ BK308.out) hb); have n3_ := Aside0.mk (blk_below (g := gb324) (o := .cells #[.string t316, .int .i64 t317, .int .i64 t318, .int .i64 t319, .int .i64 t320, .int .i64 t321, .bool t322] 26 (0, 0)) (q1466_ BK324.out) hb); have n4_ := Aside0.mk (blk_below (g := gb337) (o := .cells #[.string t329, .int .i64 t330, .int .i64 t331, .int .i64 t332, .int .i64 t333, .int .i64 t334, .bool t335] 26 (0, 0)) (q1466_ BK337.out) hb); have n5_ := Aside0.mk (below_step (q1dc4_ HB.out GE308.out GE324.out GE337.out) hb); clear HO_8; clear HO347; clear BK308; clear BK324; clear BK337; clear HB; have HO_8 := n0_; have HO347 := n1_; have BK308 := n2_; have BK324 := n3_; have BK337 := n4_; have HB := n5_; clear n0_ n1_ n2_ n3_ n4_ n5_; (try clear hb); (try clear hb2); (try clear hk); (try clear hi)) | ((with_reducible refine gate_dst (N := 15) rfl ?_); (try (refine gate_guard (by rfl) ?_; dsimp only)); refine box_event ?hg (N := 15) ?hd (cs := #[.string (⟨#[]⟩ : ByteArray), .int .i64 0, .int .i64 0, .int .i64 0, .int .i64 0, .int .i64 0, .bool false]) (t := 26) ?hr ?_; (case hd => rfl); (case hg => rfl); (case hr => first | (go_simp; done) | (go_simp; rfl)); intro gb357 hg w88 hbox hb; have n0_ := Aside0.mk (Kd.R_below (q8524_ HO_8.out) hb); have n1_ := Aside0.mk (Kd.R_below (q8524_ HO347.out) hb); have n2_ := Aside0.mk (blk_below (g := gb308) (o := .cells #[.string t300, .int .i64 t301, .int .i64 t302, .int .i64 t303, .int .i64 t304, .int .i64 t305, .bool t306] 26 (0, 0)) (q1466_ BK308.out) hb); have n3_ := Aside0.mk (blk_below (g := gb324) (o := .cells #[.string t316, .int .i64 t317, .int .i64 t318, .int .i64 t319, .int .i64 t320, .int .i64 t321, .bool t322] 26 (0, 0)) (q1466_ BK324.out) hb); have n4_ := Aside0.mk (blk_below (g := gb337) (o := .cells #[.string t329, .int .i64 t330, .int .i64 t331, .int .i64 t332, .int .i64 t333, .int .i64 t334, .bool t335] 26 (0, 0)) (q1466_ BK337.out) hb); have n5_ := Aside0.mk (below_step (q1dc4_ HB.out GE308.out GE324.out GE337.out) hb); have n6_ := Aside0.mk (hbox); have n7_ := Aside0.mk ((by rw [hg]; exact (below_size (q1dc4_ HB.out GE308.out GE324.out GE337.out)) : w.heap.size ≤ gb357)); have n8_ := Aside0.mk ((by rw [hg]; exact (below_size (q1dc4_ HB.out GE308.out GE324.out GE337.out)) : w.heap.size ≤ gb357)); have n9_ := Aside0.mk ((by rw [hg]; exact Nat.ne_of_lt (blk_lt (g := gb308) (o := .cells #[.string t300, .int .i64 t301, .int .i64 t302, .int .i64 t303, .int .i64 t304, .int .i64 t305, .bool t306] 26 (0, 0)) (q1466_ BK308.out)) : gb308 ≠ gb357)); have n10_ := Aside0.mk ((by rw [hg]; exact Nat.ne_of_gt (blk_lt (g := gb308) (o := .cells #[.string t300, .int .i64 t301, .int .i64 t302, .int .i64 t303, .int .i64 t304, .int .i64 t305, .bool t306] 26 (0, 0)) (q1466_ BK308.out)) : gb357 ≠ gb308)); have n11_ := Aside0.mk ((by rw [hg]; exact Nat.ne_of_lt (blk_lt (g := gb324) (o := .cells #[.string t316, .int .i64 t317, .int .i64 t318, .int .i64 t319, .int .i64 t320, .int .i64 t321, .bool t322] 26 (0, 0)) (q1466_ BK324.out)) : gb324 ≠ gb357)); have n12_ := Aside0.mk ((by rw [hg]; exact Nat.ne_of_gt (blk_lt (g := gb324) (o := .cells #[.string t316, .int .i64 t317, .int .i64 t318, .int .i64 t319, .int .i64 t320, .int .i64 t321, .bool t322] 26 (0, 0)) (q1466_ BK324.out)) : gb357 ≠ gb324)); have n13_ := Aside0.mk ((by rw [hg]; exact Nat.ne_of_lt (blk_lt (g := gb337) (o := .cells #[.string t329, .int .i64 t330, .int .i64 t331, .int .i64 t332, .int .i64 t333, .int .i64 t334, .bool t335] 26 (0, 0)) (q1466_ BK337.out)) : gb337 ≠ gb357)); have n14_ := Aside0.mk ((by rw [hg]; exact Nat.ne_of_gt (blk_lt (g := gb337) (o := .cells #[.string t329, .int .i64 t330, .int .i64 t331, .int .i64 t332, .int .i64 t333, .int .i64 t334, .bool t335] 26 (0, 0)) (q1466_ BK337.out)) : gb357 ≠ gb337)); clear HO_8; clear HO347; clear BK308; clear BK324; clear BK337; clear HB; have HO_8 := n0_; have HO347 := n1_; have BK308 := n2_; have BK324 := n3_; have BK337 := n4_; have HB := n5_; have BK357 := n6_; have GW357 := n7_; have GE357 := n8_; have NB308_357 := n9_; have NB357_308 := n10_; have NB324_357 := n11_; have NB357_324 := n12_; have NB337_357 := n13_; have NB357_337 := n14_; clear n0_ n1_ n2_ n3_ n4_ n5_ n6_ n7_ n8_ n9_ n10_ n11_ n12_ n13_ n14_; clear hb hbox hg; have hnb89 := NB357_308.out; have hnc89 := NB308_357.out; have hnb90 := NB357_324.out; have hnc90 := NB324_357.out; have hnb91 := NB357_337.out; have hnc91 := NB337_357.out; have hcz92_0 : w88.cell? ⟨gb357, 0, none⟩ = some (.string (⟨#[]⟩ : ByteArray)) := (blk_cell BK357.out 0).trans rfl; have hcz92_1 : w88.cell? ⟨gb357, 1, none⟩ = some (.int .i64 0) := (blk_cell BK357.out 1).trans rfl; have hcz92_2 : w88.cell? ⟨gb357, 2, none⟩ = some (.int .i64 0) := (blk_cell BK357.out 2).trans rfl; have hcz92_3 : w88.cell? ⟨gb357, 3, none⟩ = some (.int .i64 0) := (blk_cell BK357.out 3).trans rfl; have hcz92_4 : w88.cell? ⟨gb357, 4, none⟩ = some (.int .i64 0) := (blk_cell BK357.out 4).trans rfl; have hcz92_5 : w88.cell? ⟨gb357, 5, none⟩ = some (.int .i64 0) := (blk_cell BK357.out 5).trans rfl; have hcz92_6 : w88.cell? ⟨gb357, 6, none⟩ = some (.bool false) := (blk_cell BK357.out 6).trans rfl; have hfz92_0 := blk_frozen BK357.out 0; have hfz92_1 := blk_frozen BK357.out 1; have hfz92_2 := blk_frozen BK357.out 2; have hfz92_3 := blk_frozen BK357.out 3; have hfz92_4 := blk_frozen BK357.out 4; have hfz92_5 := blk_frozen BK357.out 5; have hfz92_6 := blk_frozen BK357.out 6) | (go_at_call 14; refine calls_of_args (args' := #[.slice (some ⟨go77, 0, none⟩) y348.length co77]) (by first | (rw [show y348.length = y345.length from (Kd.R_reads' HO347.out).1.symm] <;> rfl) | rfl) ?_; (with_reducible refine (cmd_Keys.calls _ _ y348 t358 _ ?side1 ?side2 A80.out).mono ?_); (case side1 => refine (Kd.R_reads' (e := 9) (base := w.heap.size) (ok := fun k_ => some k_ ≠ (.slice Ao38 x8_2.length co38 : Value).ownBlock) (n := y345.length) (c := co77) ?_).2.2; exact (by (with_reducible repeat (first | apply Kd.R_alloc | apply Kd.R_drewN | apply Kd.R_drew)); exact (Kd.R_mono (Kd.R_far (p := ⟨gb357, 6, none⟩) (Kd.R_far (p := ⟨gb357, 5, none⟩) (Kd.R_far (p := ⟨gb357, 4, none⟩) (Kd.R_far (p := ⟨gb357, 3, none⟩) (Kd.R_far (p := ⟨gb357, 2, none⟩) (Kd.R_far (p := ⟨gb357, 1, none⟩) (Kd.R_far (p := ⟨gb357, 0, none⟩) (Kd.R_types HO347.out BK357.out (by decide)) (fun _ hk => hk.2) (.string t349)) (fun _ hk => hk.2) (.int .i64 t350)) (fun _ hk => hk.2) (.int .i64 t351)) (fun _ hk => hk.2) (.int .i64 t352)) (fun _ hk => hk.2) (.int .i64 t353)) (fun _ hk => hk.2) (.int .i64 t354)) (fun _ hk => hk.2) (.bool t355)) (fun _ h_ => h_.1)))); (case side2 => rw [show y348.length = y345.length from (Kd.R_reads' HO347.out).1.symm]; exact (Kd.R_reads' HO347.out).2.1); rintro e w93 ⟨v359, rfl, ho0, hb⟩; have n0_ := Aside0.mk (Kd.R_below (by (with_reducible repeat (first | apply Kd.R_alloc | apply Kd.R_drewN | apply Kd.R_drew)); exact (Kd.R_mono (Kd.R_far (p := ⟨gb357, 6, none⟩) (Kd.R_far (p := ⟨gb357, 5, none⟩) (Kd.R_far (p := ⟨gb357, 4, none⟩) (Kd.R_far (p := ⟨gb357, 3, none⟩) (Kd.R_far (p := ⟨gb357, 2, none⟩) (Kd.R_far (p := ⟨gb357, 1, none⟩) (Kd.R_far (p := ⟨gb357, 0, none⟩) (Kd.R_types HO_8.out BK357.out (by decide)) (fun _ hk => hk.2) (.string t349)) (fun _ hk => hk.2) (.int .i64 t350)) (fun _ hk => hk.2) (.int .i64 t351)) (fun _ hk => hk.2) (.int .i64 t352)) (fun _ hk => hk.2) (.int .i64 t353)) (fun _ hk => hk.2) (.int .i64 t354)) (fun _ hk => hk.2) (.bool t355)) (fun _ h_ => h_.1))) hb); have n1_ := Aside0.mk (Kd.R_below (by (with_reducible repeat (first | apply Kd.R_alloc | apply Kd.R_drewN | apply Kd.R_drew)); exact (Kd.R_mono (Kd.R_far (p := ⟨gb357, 6, none⟩) (Kd.R_far (p := ⟨gb357, 5, none⟩) (Kd.R_far (p := ⟨gb357, 4, none⟩) (Kd.R_far (p := ⟨gb357, 3, none⟩) (Kd.R_far (p := ⟨gb357, 2, none⟩) (Kd.R_far (p := ⟨gb357, 1, none⟩) (Kd.R_far (p := ⟨gb357, 0, none⟩) (Kd.R_types HO347.out BK357.out (by decide)) (fun _ hk => hk.2) (.string t349)) (fun _ hk => hk.2) (.int .i64 t350)) (fun _ hk => hk.2) (.int .i64 t351)) (fun _ hk => hk.2) (.int .i64 t352)) (fun _ hk => hk.2) (.int .i64 t353)) (fun _ hk => hk.2) (.int .i64 t354)) (fun _ hk => hk.2) (.bool t355)) (fun _ h_ => h_.1))) hb); have n2_ := Aside0.mk (Kd.V_lower (Kd.V_mono (ok' := fun k_ => some k_ ≠ (.slice Ao38 x8_2.length co38 : Value).ownBlock ∧ some k_ ≠ (.slice (some ⟨go77, 0, none⟩) y345.length co77 : Value).ownBlock ∧ k_ ≠ gb308 ∧ k_ ≠ gb324 ∧ k_ ≠ gb337 ∧ k_ ≠ gb357) ho0 (fun k_ hk_ => ⟨(Kd.fresh' (Kd.R_lt (by (with_reducible repeat (first | apply Kd.R_alloc | apply Kd.R_drewN | apply Kd.R_drew)); exact (Kd.R_mono (Kd.R_far (p := ⟨gb357, 6, none⟩) (Kd.R_far (p := ⟨gb357, 5, none⟩) (Kd.R_far (p := ⟨gb357, 4, none⟩) (Kd.R_far (p := ⟨gb357, 3, none⟩) (Kd.R_far (p := ⟨gb357, 2, none⟩) (Kd.R_far (p := ⟨gb357, 1, none⟩) (Kd.R_far (p := ⟨gb357, 0, none⟩) (Kd.R_types HO_8.out BK357.out (by decide)) (fun _ hk => hk.2) (.string t349)) (fun _ hk => hk.2) (.int .i64 t350)) (fun _ hk => hk.2) (.int .i64 t351)) (fun _ hk => hk.2) (.int .i64 t352)) (fun _ hk => hk.2) (.int .i64 t353)) (fun _ hk => hk.2) (.int .i64 t354)) (fun _ hk => hk.2) (.bool t355)) (fun _ h_ => h_.1)))) k_ hk_), (Kd.fresh' (Kd.R_lt (by (with_reducible repeat (first | apply Kd.R_alloc | apply Kd.R_drewN | apply Kd.R_drew)); exact (Kd.R_mono (Kd.R_far (p := ⟨gb357, 6, none⟩) (Kd.R_far (p := ⟨gb357, 5, none⟩) (Kd.R_far (p := ⟨gb357, 4, none⟩) (Kd.R_far (p := ⟨gb357, 3, none⟩) (Kd.R_far (p := ⟨gb357, 2, none⟩) (Kd.R_far (p := ⟨gb357, 1, none⟩) (Kd.R_far (p := ⟨gb357, 0, none⟩) (Kd.R_types HO347.out BK357.out (by decide)) (fun _ hk => hk.2) (.string t349)) (fun _ hk => hk.2) (.int .i64 t350)) (fun _ hk => hk.2) (.int .i64 t351)) (fun _ hk => hk.2) (.int .i64 t352)) (fun _ hk => hk.2) (.int .i64 t353)) (fun _ hk => hk.2) (.int .i64 t354)) (fun _ hk => hk.2) (.bool t355)) (fun _ h_ => h_.1)))) k_ hk_), (Kd.freshB (g := gb308) (o := .cells #[.string t300, .int .i64 t301, .int .i64 t302, .int .i64 t303, .int .i64 t304, .int .i64 t305, .bool t306] 26 (0, 0)) (q34cc_ NB308_357.out BK308.out) k_ hk_), (Kd.freshB (g := gb324) (o := .cells #[.string t316, .int .i64 t317, .int .i64 t318, .int .i64 t319, .int .i64 t320, .int .i64 t321, .bool t322] 26 (0, 0)) (q34cc_ NB324_357.out BK324.out) k_ hk_), (Kd.freshB (g := gb337) (o := .cells #[.string t329, .int .i64 t330, .int .i64 t331, .int .i64 t332, .int .i64 t333, .int .i64 t334, .bool t335] 26 (0, 0)) (q34cc_ NB337_357.out BK337.out) k_ hk_), (Kd.freshB (g := gb357) (o := .cells #[.string t349, .int .i64 t350, .int .i64 t351, .int .i64 t352, .int .i64 t353, .int .i64 t354, .bool t355] 26 (0, 0)) (by (with_reducible repeat (first | refine blk_drewN ?_ _ | refine blk_drew ?_ | refine blk_alloc ?_ _)); refine blk_put (cs := #[.string t349, .int .i64 t350, .int .i64 t351, .int .i64 t352, .int .i64 t353, .int .i64 t354, .bool false]) ?_ 6 _ rfl; (with_reducible repeat (first | refine blk_drewN ?_ _ | refine blk_drew ?_ | refine blk_alloc ?_ _)); refine blk_put (cs := #[.string t349, .int .i64 t350, .int .i64 t351, .int .i64 t352, .int .i64 t353, .int .i64 0, .bool false]) ?_ 5 _ rfl; (with_reducible repeat (first | refine blk_drewN ?_ _ | refine blk_drew ?_ | refine blk_alloc ?_ _)); refine blk_put (cs := #[.string t349, .int .i64 t350, .int .i64 t351, .int .i64 t352, .int .i64 0, .int .i64 0, .bool false]) ?_ 4 _ rfl; (with_reducible repeat (first | refine blk_drewN ?_ _ | refine blk_drew ?_ | refine blk_alloc ?_ _)); refine blk_put (cs := #[.string t349, .int .i64 t350, .int .i64 t351, .int .i64 0, .int .i64 0, .int .i64 0, .bool false]) ?_ 3 _ rfl; (with_reducible repeat (first | refine blk_drewN ?_ _ | refine blk_drew ?_ | refine blk_alloc ?_ _)); refine blk_put (cs := #[.string t349, .int .i64 t350, .int .i64 0, .int .i64 0, .int .i64 0, .int .i64 0, .bool false]) ?_ 2 _ rfl; (with_reducible repeat (first | refine blk_drewN ?_ _ | refine blk_drew ?_ | refine blk_alloc ?_ _)); refine blk_put (cs := #[.string t349, .int .i64 0, .int .i64 0, .int .i64 0, .int .i64 0, .int .i64 0, .bool false]) ?_ 1 _ rfl; (with_reducible repeat (first | refine blk_drewN ?_ _ | refine blk_drew ?_ | refine blk_alloc ?_ _)); refine blk_put (cs := #[.string (⟨#[]⟩ : ByteArray), .int .i64 0, .int .i64 0, .int .i64 0, .int .i64 0, .int .i64 0, .bool false]) ?_ 0 _ rfl; (with_reducible repeat (first | refine blk_drewN ?_ _ | refine blk_drew ?_ | refine blk_alloc ?_ _)); exact BK357.out) k_ hk_)⟩)) (below_size (qb40c_ HB.out GE308.out GE324.out GE337.out GE357.out))); have n3_ := Aside0.mk (blk_below (g := gb308) (o := .cells #[.string t300, .int .i64 t301, .int .i64 t302, .int .i64 t303, .int .i64 t304, .int .i64 t305, .bool t306] 26 (0, 0)) (q34cc_ NB308_357.out BK308.out) hb); have n4_ := Aside0.mk (blk_below (g := gb324) (o := .cells #[.string t316, .int .i64 t317, .int .i64 t318, .int .i64 t319, .int .i64 t320, .int .i64 t321, .bool t322] 26 (0, 0)) (q34cc_ NB324_357.out BK324.out) hb); have n5_ := Aside0.mk (blk_below (g := gb337) (o := .cells #[.string t329, .int .i64 t330, .int .i64 t331, .int .i64 t332, .int .i64 t333, .int .i64 t334, .bool t335] 26 (0, 0)) (q34cc_ NB337_357.out BK337.out) hb); have n6_ := Aside0.mk (blk_below (g := gb357) (o := .cells #[.string t349, .int .i64 t350, .int .i64 t351, .int .i64 t352, .int .i64 t353, .int .i64 t354, .bool t355] 26 (0, 0)) (by (with_reducible repeat (first | refine blk_drewN ?_ _ | refine blk_drew ?_ | refine blk_alloc ?_ _)); refine blk_put (cs := #[.string t349, .int .i64 t350, .int .i64 t351, .int .i64 t352, .int .i64 t353, .int .i64 t354, .bool false]) ?_ 6 _ rfl; (with_reducible repeat (first | refine blk_drewN ?_ _ | refine blk_drew ?_ | refine blk_alloc ?_ _)); refine blk_put (cs := #[.string t349, .int .i64 t350, .int .i64 t351, .int .i64 t352, .int .i64 t353, .int .i64 0, .bool false]) ?_ 5 _ rfl; (with_reducible repeat (first | refine blk_drewN ?_ _ | refine blk_drew ?_ | refine blk_alloc ?_ _)); refine blk_put (cs := #[.string t349, .int .i64 t350, .int .i64 t351, .int .i64 t352, .int .i64 0, .int .i64 0, .bool false]) ?_ 4 _ rfl; (with_reducible repeat (first | refine blk_drewN ?_ _ | refine blk_drew ?_ | refine blk_alloc ?_ _)); refine blk_put (cs := #[.string t349, .int .i64 t350, .int .i64 t351, .int .i64 0, .int .i64 0, .int .i64 0, .bool false]) ?_ 3 _ rfl; (with_reducible repeat (first | refine blk_drewN ?_ _ | refine blk_drew ?_ | refine blk_alloc ?_ _)); refine blk_put (cs := #[.string t349, .int .i64 t350, .int .i64 0, .int .i64 0, .int .i64 0, .int .i64 0, .bool false]) ?_ 2 _ rfl; (with_reducible repeat (first | refine blk_drewN ?_ _ | refine blk_drew ?_ | refine blk_alloc ?_ _)); refine blk_put (cs := #[.string t349, .int .i64 0, .int .i64 0, .int .i64 0, .int .i64 0, .int .i64 0, .bool false]) ?_ 1 _ rfl; (with_reducible repeat (first | refine blk_drewN ?_ _ | refine blk_drew ?_ | refine blk_alloc ?_ _)); refine blk_put (cs := #[.string (⟨#[]⟩ : ByteArray), .int .i64 0, .int .i64 0, .int .i64 0, .int .i64 0, .int .i64 0, .bool false]) ?_ 0 _ rfl; (with_reducible repeat (first | refine blk_drewN ?_ _ | refine blk_drew ?_ | refine blk_alloc ?_ _)); exact BK357.out) hb); have n7_ := Aside0.mk (below_step (qb40c_ HB.out GE308.out GE324.out GE337.out GE357.out) hb); clear HO_8; clear HO347; clear BK308; clear BK324; clear BK337; clear BK357; clear HB; have HO_8 := n0_; have HO347 := n1_; have HO360 := n2_; have BK308 := n3_; have BK324 := n4_; have BK337 := n5_; have BK357 := n6_; have HB := n7_; clear n0_ n1_ n2_ n3_ n4_ n5_ n6_ n7_; (try clear hb); (try clear hb2); (try clear hk); (try clear hi); (try clear ho0); obtain ⟨Ao94, co94, eo94⟩ := Kd.V_slice HO360.out; subst eo94))
                     go_meet
                     case rel => exact ⟨_, (x8_2), H', ⟨by have := HJ8.out; have := HK2.out; have := HJ36.out; first | omega | exact Nat.le_refl _⟩, ⟨by (with_reducible repeat (first | apply Kd.R_alloc | apply Kd.R_drewN | apply Kd.R_drew)); exact Kd.R_mono HO_8.out (fun _ hk => trivial)⟩, ⟨by (with_reducible repeat (first | refine blk_drewN ?_ _ | refine blk_drew ?_ | refine blk_alloc ?_ _)); exact BK308.out⟩, ⟨by (with_reducible repeat (first | refine blk_drewN ?_ _ | refine blk_drew ?_ | refine blk_alloc ?_ _)); exact BK324.out⟩, ⟨by (with_reducible repeat (first | refine blk_drewN ?_ _ | refine blk_drew ?_ | refine blk_alloc ?_ _)); exact BK337.out⟩, ⟨(qb40c_ HB.out GE308.out GE324.out GE337.out GE357.out)⟩⟩
                    ·rw [if_neg c81] at H
                     have c81b0 : ((t358.length : Int) == 0) = false := beq_eq_false_iff_ne.mpr c81
                     have c81b1 : ((t358.length : Int) != 0) = true := bne_iff_ne.mpr c81
                     have c81b2 : ¬ (t358 = []) := fun h_ => c81 (by rw [h_]; rfl)
                     subst hrt_; exact absurd H (by simp)
                  ·rw [if_neg c76] at H
                   exact absurd H (by simp)
                 ·rw [if_neg c75] at H
                  exact absurd H (by simp)
                ·rw [if_neg c74] at H
                 have c74b0 : decide (0 < t303) = false := decide_eq_false c74
                 clear c74
                 (first | rw [c74b0] | (simp only [i64_w, i32_w]; rw [c74b0]) | skip)
                 have H' := Aside0.mk H
                 clear H
                 go_wp2
                 go_meet
                 case rel => exact ⟨_, (x8_2), H', ⟨by have := HJ8.out; have := HK2.out; have := HJ36.out; first | omega | exact Nat.le_refl _⟩, ⟨by (with_reducible repeat (first | apply Kd.R_alloc | apply Kd.R_drewN | apply Kd.R_drew)); exact HO_8.out⟩, ⟨by (with_reducible repeat (first | refine blk_drewN ?_ _ | refine blk_drew ?_ | refine blk_alloc ?_ _)); exact BK308.out⟩, ⟨by (with_reducible repeat (first | refine blk_drewN ?_ _ | refine blk_drew ?_ | refine blk_alloc ?_ _)); exact BK324.out⟩, ⟨by (with_reducible repeat (first | refine blk_drewN ?_ _ | refine blk_drew ?_ | refine blk_alloc ?_ _)); exact BK337.out⟩, ⟨(q1dc4_ HB.out GE308.out GE324.out GE337.out)⟩⟩
               case rest =>
                clear HC70
                try clear c1
                try clear c2
                try clear p2
                try clear q2
                try clear hx2
                try clear c3
                try clear p3
                try clear q3
                try clear hx3
                try clear qi3
                try clear c4
                try clear c4b0
                try clear c4b1
                try clear c4b2
                try clear q4
                try clear c5
                try clear c6
                try clear c6b0
                try clear p6
                try clear c7
                try clear c7b0
                try clear p7
                try clear q7
                try clear hx7
                try clear qi7
                try clear hf7
                try clear c8
                try clear c9
                try clear c11
                try clear c14
                try clear c15
                try clear c16
                try clear c16b0
                try clear c17
                try clear c19
                try clear c23
                try clear c23b0
                try clear c25
                try clear c25b0
                try clear c25b1
                try clear c25b2
                try clear c26
                try clear p29
                try clear q29
                try clear hx29
                try clear c33
                try clear c33b0
                try clear c33b1
                try clear c34
                try clear c34b0
                try clear c34b1
                try clear p34
                try clear q34
                try clear hx34
                try clear qi34
                try clear c42
                try clear q45
                try clear c48
                try clear c49
                try clear c52
                try clear c53
                try clear c54
                try clear c54b0
                try clear c54b1
                try clear c54b2
                try clear c55
                try clear c56
                try clear c59
                try clear c59b0
                try clear c60
                try clear c60b0
                try clear c60b1
                try clear c61
                try clear c62
                try clear p64
                try clear c65
                try clear c66
                try clear c69
                try clear c71
                try clear c72
                try clear c74
                try clear c74b0
                try clear c75
                try clear c76
                try clear c76b0
                try clear c76b1
                try clear p77
                try clear q77
                try clear hx77
                try clear qi77
                try clear hf77
                try clear c79
                try clear c81
                try clear c81b0
                try clear c81b1
                try clear c81b2
                try clear c89
                try clear c90
                try clear c91
                try clear hcz14_0
                try clear hcz14_1
                try clear hcz14_2
                try clear hcz14_3
                try clear hcz14_4
                try clear hcz14_5
                try clear hcz14_6
                try clear hcz17_0
                try clear hcz17_1
                try clear hcz17_2
                try clear hcz17_3
                try clear hcz17_4
                try clear hcz17_5
                try clear hcz17_6
                try clear hcz18_0
                try clear hcz18_1
                try clear hcz18_2
                try clear hcz18_3
                try clear hcz18_4
                try clear hcz18_5
                try clear hcz18_6
                try clear hcz20_0
                try clear hcz20_1
                try clear hcz20_2
                try clear hcz20_3
                try clear hcz20_4
                try clear hcz20_5
                try clear hcz20_6
                try clear hcz28_0
                try clear hcz28_1
                try clear hcz28_2
                try clear hcz28_3
                try clear hcz28_4
                try clear hcz28_5
                try clear hcz28_6
                try clear hcz39_0
                try clear hcz39_1
                try clear hcz39_2
                try clear hcz39_3
                try clear hcz39_4
                try clear hcz39_5
                try clear hcz39_6
                try clear hcz43_0
                try clear hcz43_1
                try clear hcz43_2
                try clear hcz43_3
                try clear hcz43_4
                try clear hcz43_5
                try clear hcz43_6
                try clear hcz50_0
                try clear hcz50_1
                try clear hcz50_2
                try clear hcz50_3
                try clear hcz50_4
                try clear hcz50_5
                try clear hcz50_6
                try clear hcz57_0
                try clear hcz57_1
                try clear hcz57_2
                try clear hcz57_3
                try clear hcz57_4
                try clear hcz57_5
                try clear hcz57_6
                try clear hcz63_0
                try clear hcz63_1
                try clear hcz63_2
                try clear hcz63_3
                try clear hcz63_4
                try clear hcz63_5
                try clear hcz63_6
                try clear hcz67_0
                try clear hcz67_1
                try clear hcz67_2
                try clear hcz67_3
                try clear hcz67_4
                try clear hcz67_5
                try clear hcz67_6
                try clear hcz73_0
                try clear hcz73_1
                try clear hcz73_2
                try clear hcz73_3
                try clear hcz73_4
                try clear hcz73_5
                try clear hcz73_6
                try clear hcz92_0
                try clear hcz92_1
                try clear hcz92_2
                try clear hcz92_3
                try clear hcz92_4
                try clear hcz92_5
                try clear hcz92_6
                try clear hfz14_0
                try clear hfz14_1
                try clear hfz14_2
                try clear hfz14_3
                try clear hfz14_4
                try clear hfz14_5
                try clear hfz14_6
                try clear hfz17_0
                try clear hfz17_1
                try clear hfz17_2
                try clear hfz17_3
                try clear hfz17_4
                try clear hfz17_5
                try clear hfz17_6
                try clear hfz18_0
                try clear hfz18_1
                try clear hfz18_2
                try clear hfz18_3
                try clear hfz18_4
                try clear hfz18_5
                try clear hfz18_6
                try clear hfz20_0
                try clear hfz20_1
                try clear hfz20_2
                try clear hfz20_3
                try clear hfz20_4
                try clear hfz20_5
                try clear hfz20_6
                try clear hfz28_0
                try clear hfz28_1
                try clear hfz28_2
                try clear hfz28_3
                try clear hfz28_4
                try clear hfz28_5
                try clear hfz28_6
                try clear hfz39_0
                try clear hfz39_1
                try clear hfz39_2
                try clear hfz39_3
                try clear hfz39_4
                try clear hfz39_5
                try clear hfz39_6
                try clear hfz43_0
                try clear hfz43_1
                try clear hfz43_2
                try clear hfz43_3
                try clear hfz43_4
                try clear hfz43_5
                try clear hfz43_6
                try clear hfz50_0
                try clear hfz50_1
                try clear hfz50_2
                try clear hfz50_3
                try clear hfz50_4
                try clear hfz50_5
                try clear hfz50_6
                try clear hfz57_0
                try clear hfz57_1
                try clear hfz57_2
                try clear hfz57_3
                try clear hfz57_4
                try clear hfz57_5
                try clear hfz57_6
                try clear hfz63_0
                try clear hfz63_1
                try clear hfz63_2
                try clear hfz63_3
                try clear hfz63_4
                try clear hfz63_5
                try clear hfz63_6
                try clear hfz67_0
                try clear hfz67_1
                try clear hfz67_2
                try clear hfz67_3
                try clear hfz67_4
                try clear hfz67_5
                try clear hfz67_6
                try clear hfz73_0
                try clear hfz73_1
                try clear hfz73_2
                try clear hfz73_3
                try clear hfz73_4
                try clear hfz73_5
                try clear hfz73_6
                try clear hfz92_0
                try clear hfz92_1
                try clear hfz92_2
                try clear hfz92_3
                try clear hfz92_4
                try clear hfz92_5
                try clear hfz92_6
                try clear hx299_0
                try clear hx341_0
                try clear hx77_0
                try clear p2
                try clear p29
                try clear p299
                try clear p3
                try clear p34
                try clear p341
                try clear p6
                try clear p64
                try clear p77
                try clear q2
                try clear q29
                try clear q299
                try clear q3
                try clear q34
                try clear q341
                try clear q4
                try clear q45
                try clear q77
                obtain ⟨kq, x8_69, HA, HJ69, HO_8, BK308, BK324, BK337, HB⟩ := hcut
                have hl8_69 := (Kd.R_reads' HO_8.out).1
                rw [hl8_69] at HO_8
                (try simp only [hl8_69])
                (try simp only [hl8_69] at BK308)
                (try simp only [hl8_69] at BK324)
                (try simp only [hl8_69] at BK337)
                cases kq with
                | zero => exact absurd HA.out (by simp [caravanlaw4_CmdKeys.j3])
                | succ kj69 =>
                 have H := HA.out
                 clear HA
                 simp only [caravanlaw4_CmdKeys.j3] at H
                 by_cases c95 : t302 > 0
                 ·rw [if_pos c95] at H
                  have c95b0 : decide (0 < t302) = true := decide_eq_true c95
                  clear c95
                  obtain ⟨y361, hy361⟩ : ∃ y_ : List ByteArray, y_ = (([] : List ByteArray)) := ⟨_, rfl⟩
                  replace H : (if y361.length + x8_69.length < 8796093022208 then ((some (y361 ++ x8_69 : List ByteArray)).bind fun y364 => (if y364.length < 8796093022208 then ((cmd_Check.f (y364 ++ [(⟨#[120]⟩ : ByteArray)])).bind fun bt370 => (if ((!bt370.2.2.2.2.2.2.2) == (t302 == t301)) = true then ((caravanlaw4_awake.f).bind fun t379 => (some t379)) else (some false))) else (none))) else (none)) = some r := by first | (rw [hy361]; with_reducible exact H) | (have H2_ := (Option.bind_some _ _).symm.trans H; rw [hy361]; with_reducible exact H2_) | (have H2_ := (Option.bind_some _ _).symm.trans H; with_reducible exact H2_) | with_reducible exact H | (rw [hy361]; exact H) | exact H
                  have Ny361 := Aside0.mk hy361
                  clear hy361
                  by_cases c96 : y361.length + x8_69.length < 8796093022208
                  ·rw [if_pos c96] at H
                   have LMc96 := Aside0.mk c96
                   clear c96
                   obtain ⟨y364, hy364⟩ : ∃ y_ : List ByteArray, y_ = (y361 ++ x8_69) := ⟨_, rfl⟩
                   replace H : (if y364.length < 8796093022208 then ((cmd_Check.f (y364 ++ [(⟨#[120]⟩ : ByteArray)])).bind fun bt370 => (if ((!bt370.2.2.2.2.2.2.2) == (t302 == t301)) = true then ((caravanlaw4_awake.f).bind fun t379 => (some t379)) else (some false))) else (none)) = some r := by first | (rw [hy364]; with_reducible exact H) | (have H2_ := (Option.bind_some _ _).symm.trans H; rw [hy364]; with_reducible exact H2_) | (have H2_ := (Option.bind_some _ _).symm.trans H; with_reducible exact H2_) | with_reducible exact H | (rw [hy364]; exact H) | exact H
                   have Ny364 := Aside0.mk hy364
                   clear hy364
                   by_cases c97 : y364.length < 8796093022208
                   ·rw [if_pos c97] at H
                    have LMc97 := Aside0.mk c97
                    clear c97
                    obtain ⟨y367, hy367⟩ : ∃ y_ : List ByteArray, y_ = (y364 ++ [(⟨#[120]⟩ : ByteArray)]) := ⟨_, rfl⟩
                    replace H : ((cmd_Check.f y367).bind fun bt370 => (if ((!bt370.2.2.2.2.2.2.2) == (t302 == t301)) = true then ((caravanlaw4_awake.f).bind fun t379 => (some t379)) else (some false))) = some r := by first | (rw [hy367]; with_reducible exact H) | (have H2_ := (Option.bind_some _ _).symm.trans H; rw [hy367]; with_reducible exact H2_) | (have H2_ := (Option.bind_some _ _).symm.trans H; with_reducible exact H2_) | with_reducible exact H | (rw [hy367]; exact H) | exact H
                    have Ny367 := Aside0.mk hy367
                    clear hy367
                    replace H := Option.bind_eq_some_iff.mp H
                    obtain ⟨⟨t370, t371, t372, t373, t374, t375, t376, t377⟩, A980, H⟩ := H
                    replace H : (if ((!t377) == (t302 == t301)) = true then ((caravanlaw4_awake.f).bind fun t379 => (some t379)) else (some false)) = some r := H
                    have A98 := Aside0.mk A980
                    clear A980
                    by_cases c99 : ((!t377) == (t302 == t301)) = true
                    ·rw [if_pos c99] at H
                     have c99b0 : ((!t377) == (t302 == t301)) = true := c99
                     (try (have c99b1 : decide ((!t377) = (t302 == t301)) = true := by simpa using c99))
                     (try (have c99b2 : ((!t377) == (t302 == t301)) = true := by simpa using c99))
                     clear c99
                     replace H := Option.bind_eq_some_iff.mp H
                     obtain ⟨t379, A1000, H⟩ := H
                     replace H : (some t379) = some r := H
                     have A100 := Aside0.mk A1000
                     clear A1000
                     obtain rfl := Option.some.inj H
                     have hnb101 := NB308_324.out
                     have hnc101 := NB324_308.out
                     have hnb102 := NB308_337.out
                     have hnc102 := NB337_308.out
                     have hcz103_0 : wc.cell? ⟨gb308, 0, none⟩ = some (.string t300) := (blk_cell BK308.out 0).trans rfl
                     have hcz103_1 : wc.cell? ⟨gb308, 1, none⟩ = some (.int .i64 t301) := (blk_cell BK308.out 1).trans rfl
                     have hcz103_2 : wc.cell? ⟨gb308, 2, none⟩ = some (.int .i64 t302) := (blk_cell BK308.out 2).trans rfl
                     have hcz103_3 : wc.cell? ⟨gb308, 3, none⟩ = some (.int .i64 t303) := (blk_cell BK308.out 3).trans rfl
                     have hcz103_4 : wc.cell? ⟨gb308, 4, none⟩ = some (.int .i64 t304) := (blk_cell BK308.out 4).trans rfl
                     have hcz103_5 : wc.cell? ⟨gb308, 5, none⟩ = some (.int .i64 t305) := (blk_cell BK308.out 5).trans rfl
                     have hcz103_6 : wc.cell? ⟨gb308, 6, none⟩ = some (.bool t306) := (blk_cell BK308.out 6).trans rfl
                     have hfz103_0 := blk_frozen BK308.out 0
                     have hfz103_1 := blk_frozen BK308.out 1
                     have hfz103_2 := blk_frozen BK308.out 2
                     have hfz103_3 := blk_frozen BK308.out 3
                     have hfz103_4 := blk_frozen BK308.out 4
                     have hfz103_5 := blk_frozen BK308.out 5
                     have hfz103_6 := blk_frozen BK308.out 6
                     go_wp2_with (first | ((with_reducible refine gate_dst (N := 130) rfl ?_); (try (refine gate_guard (by rfl) ?_; dsimp only)); refine Kd.R_lit Kd.string _ 9 ?hg (N := 130) ?hd (xs := ([] : List ByteArray)) (inner := []) (ok := fun _ => True) (okp := fun _ => True) ?hr ?hp (fun _ hk => hk) trivial (Below.refl _ _) (Nat.le_refl _) (by simp) ?_; (case hd => rfl); (case hg => rfl); (case hr => first | (go_simp; done) | (go_simp; rfl)); (case hp => exact (Reps.none _ _)); intro v362 w104 ho105 hb hg_ hnew_; clear hg_ hnew_; (first | rw [← Ny361.out] at ho105 | (simp only [Int.reduceToNat] at ho105; rw [← Ny361.out] at ho105)); have n0_ := Aside0.mk (Kd.R_elder' (q8524_ HO_8.out) (Kd.R_base ho105) hb); have n1_ := Aside0.mk (Kd.R_lower (Kd.R_new' ho105 (Kd.R_lt (q8524_ HO_8.out))) (below_size (q1dc4_ HB.out GE308.out GE324.out GE337.out))); have n2_ := Aside0.mk (blk_below (g := gb308) (o := .cells #[.string t300, .int .i64 t301, .int .i64 t302, .int .i64 t303, .int .i64 t304, .int .i64 t305, .bool t306] 26 (0, 0)) (q1466_ BK308.out) hb); have n3_ := Aside0.mk (blk_below (g := gb324) (o := .cells #[.string t316, .int .i64 t317, .int .i64 t318, .int .i64 t319, .int .i64 t320, .int .i64 t321, .bool t322] 26 (0, 0)) (q1466_ BK324.out) hb); have n4_ := Aside0.mk (blk_below (g := gb337) (o := .cells #[.string t329, .int .i64 t330, .int .i64 t331, .int .i64 t332, .int .i64 t333, .int .i64 t334, .bool t335] 26 (0, 0)) (q1466_ BK337.out) hb); have n5_ := Aside0.mk (below_step (q1dc4_ HB.out GE308.out GE324.out GE337.out) hb); clear HO_8; clear BK308; clear BK324; clear BK337; clear HB; have HO_8 := n0_; have HO363 := n1_; have BK308 := n2_; have BK324 := n3_; have BK337 := n4_; have HB := n5_; clear n0_ n1_ n2_ n3_ n4_ n5_; clear hb ho105) | ((with_reducible refine gate_builtin (b := .append) (xs := #[.tmp 130, .tmp 131]) rfl ?_); (try (refine gate_guard (by rfl) ?_; dsimp only)); at_builtin; refine Kd.R_append_rows Kd.string (w0 := w) w.heap.size rfl (.tmp 130) (.tmp 131) 22 9 (.string ⟨#[]⟩) 16 rfl Try.underlying22 info9 rfl (by decide) (by omega) v362 y361 x8_69 _ _ _ (fun k_ => some k_ ≠ (.slice Ao38 x8_69.length co38 : Value).ownBlock) (fun _ => False) rfl rfl ?aO ?aR (fun _ _ h => h) (fun _ h => h.elim) ?aF ?aB ?aS ?aL ?_; (case aR => repeat (first | exact (Kd.R_reads' HO_8.out).2.2 | (with_reducible refine Kd.C_alloc ?_ _) | (with_reducible refine Kd.C_drewN ?_ _) | (with_reducible refine Kd.C_drew ?_))); (case aB => exact (q1dc4_ HB.out GE308.out GE324.out GE337.out)); (case aF => exact (fun k_ hk => Kd.fresh' (Kd.R_lt (q8524_ HO_8.out)) k_ hk)); (case aO => exact (qaa69_ HO363.out)); (case aS => exact (below_size (q1dc4_ HB.out GE308.out GE324.out GE337.out))); (case aL => have := LMc96.out; omega); intro v365 w106 ho hb hg hat; rw [← Ny364.out] at ho; have n0_ := Aside0.mk (Kd.R_after (ok := (fun _ => True)) (q8524_ HO_8.out) hg hat); have n1_ := Aside0.mk (blk_grown (g := gb308) (o := .cells #[.string t300, .int .i64 t301, .int .i64 t302, .int .i64 t303, .int .i64 t304, .int .i64 t305, .bool t306] 26 (0, 0)) (q1466_ BK308.out) hg (Kd.R_ne HO363.out BK308.out (by decide))); have n2_ := Aside0.mk (blk_grown (g := gb324) (o := .cells #[.string t316, .int .i64 t317, .int .i64 t318, .int .i64 t319, .int .i64 t320, .int .i64 t321, .bool t322] 26 (0, 0)) (q1466_ BK324.out) hg (Kd.R_ne HO363.out BK324.out (by decide))); have n3_ := Aside0.mk (blk_grown (g := gb337) (o := .cells #[.string t329, .int .i64 t330, .int .i64 t331, .int .i64 t332, .int .i64 t333, .int .i64 t334, .bool t335] 26 (0, 0)) (q1466_ BK337.out) hg (Kd.R_ne HO363.out BK337.out (by decide))); have n4_ := Aside0.mk (hb); have n5_ := Aside0.mk (ho); clear HO_8; clear BK308; clear BK324; clear BK337; clear HB; clear HO363; have HO_8 := n0_; have BK308 := n1_; have BK324 := n2_; have BK337 := n3_; have HB := n4_; have HO366 := n5_; clear n0_ n1_ n2_ n3_ n4_ n5_; clear ho hb hg hat) | ((with_reducible refine gate_builtin (b := .append) (xs := #[.tmp 132, .tmp 133]) rfl ?_); (try (refine gate_guard (by rfl) ?_; dsimp only)); at_builtin; refine Kd.R_append Kd.string (w0 := w) w.heap.size rfl (.tmp 132) (.tmp 133) 22 9 (.string ⟨#[]⟩) 16 rfl Try.underlying22 info9 rfl (by decide) (by omega) v365 y364 (⟨#[120]⟩ : ByteArray) [.string (⟨#[120]⟩ : ByteArray)] (fun k_ => some k_ ≠ (.slice Ao38 x8_69.length co38 : Value).ownBlock) (fun _ => False) rfl rfl ?aP (fun _ hk => hk.elim) ?aF ?aO ?aB ?aS ?aL ?_; (case aP => exact rfl); (case aB => exact (q1dc4_ HB.out GE308.out GE324.out GE337.out)); (case aF => exact (fun k_ hk => Kd.fresh' (Kd.R_lt (q8524_ HO_8.out)) k_ hk)); (case aO => exact (q8524_ HO366.out)); (case aS => exact (below_size (q1dc4_ HB.out GE308.out GE324.out GE337.out))); (case aL => have := LMc97.out; omega); intro v368 w107 ho hb hg hat; rw [← Ny367.out] at ho; have n0_ := Aside0.mk (Kd.R_after (ok := (fun _ => True)) (q8524_ HO_8.out) hg hat); have n1_ := Aside0.mk (blk_grown (g := gb308) (o := .cells #[.string t300, .int .i64 t301, .int .i64 t302, .int .i64 t303, .int .i64 t304, .int .i64 t305, .bool t306] 26 (0, 0)) (q1466_ BK308.out) hg (Kd.R_ne HO366.out BK308.out (by decide))); have n2_ := Aside0.mk (blk_grown (g := gb324) (o := .cells #[.string t316, .int .i64 t317, .int .i64 t318, .int .i64 t319, .int .i64 t320, .int .i64 t321, .bool t322] 26 (0, 0)) (q1466_ BK324.out) hg (Kd.R_ne HO366.out BK324.out (by decide))); have n3_ := Aside0.mk (blk_grown (g := gb337) (o := .cells #[.string t329, .int .i64 t330, .int .i64 t331, .int .i64 t332, .int .i64 t333, .int .i64 t334, .bool t335] 26 (0, 0)) (q1466_ BK337.out) hg (Kd.R_ne HO366.out BK337.out (by decide))); have n4_ := Aside0.mk (hb); have n5_ := Aside0.mk (ho); clear HO_8; clear BK308; clear BK324; clear BK337; clear HB; clear HO366; have HO_8 := n0_; have BK308 := n1_; have BK324 := n2_; have BK337 := n3_; have HB := n4_; have HO369 := n5_; clear n0_ n1_ n2_ n3_ n4_ n5_; clear ho hb hg hat; obtain ⟨Ao108, co108, eo108⟩ := Kd.R_slice HO369.out; subst eo108) | ((with_reducible refine gate_callee (f := 9) rfl ?_); refine goesL_ (some 135) rfl rfl Try.func9 (by kernel_rfl) rfl #[.slice Ao108 y367.length co108] rfl qM_ ?_; (with_reducible refine (cmd_Check.calls _ _ y367 t370 t371 t372 t373 t374 t375 t376 t377 _ ?side1 ?side2 A98.out).mono ?_); (case side1 => exact qC_ ((Kd.R_reads' HO369.out).2.2)); (case side2 => exact (Kd.R_reads' HO369.out).2.1); rintro e w109 ⟨rfl, hb⟩; refine ⟨_, rfl, ?_⟩; have n0_ := Aside0.mk (Kd.R_below (q8524_ HO_8.out) hb); have n1_ := Aside0.mk (Kd.R_below (q8524_ HO369.out) hb); have n2_ := Aside0.mk (blk_below (g := gb308) (o := .cells #[.string t300, .int .i64 t301, .int .i64 t302, .int .i64 t303, .int .i64 t304, .int .i64 t305, .bool t306] 26 (0, 0)) (q1466_ BK308.out) hb); have n3_ := Aside0.mk (blk_below (g := gb324) (o := .cells #[.string t316, .int .i64 t317, .int .i64 t318, .int .i64 t319, .int .i64 t320, .int .i64 t321, .bool t322] 26 (0, 0)) (q1466_ BK324.out) hb); have n4_ := Aside0.mk (blk_below (g := gb337) (o := .cells #[.string t329, .int .i64 t330, .int .i64 t331, .int .i64 t332, .int .i64 t333, .int .i64 t334, .bool t335] 26 (0, 0)) (q1466_ BK337.out) hb); have n5_ := Aside0.mk (below_step (q1dc4_ HB.out GE308.out GE324.out GE337.out) hb); clear HO_8; clear HO369; clear BK308; clear BK324; clear BK337; clear HB; have HO_8 := n0_; have HO369 := n1_; have BK308 := n2_; have BK324 := n3_; have BK337 := n4_; have HB := n5_; clear n0_ n1_ n2_ n3_ n4_ n5_; (try clear hb); (try clear hb2); (try clear hk); (try clear hi)) | ((with_reducible refine gate_dst (N := 17) rfl ?_); (try (refine gate_guard (by rfl) ?_; dsimp only)); refine box_event ?hg (N := 17) ?hd (cs := #[.string (⟨#[]⟩ : ByteArray), .int .i64 0, .int .i64 0, .int .i64 0, .int .i64 0, .int .i64 0, .bool false]) (t := 26) ?hr ?_; (case hd => rfl); (case hg => rfl); (case hr => first | (go_simp; done) | (go_simp; rfl)); intro gb378 hg w110 hbox hb; have n0_ := Aside0.mk (Kd.R_below (q8524_ HO_8.out) hb); have n1_ := Aside0.mk (Kd.R_below (q8524_ HO369.out) hb); have n2_ := Aside0.mk (blk_below (g := gb308) (o := .cells #[.string t300, .int .i64 t301, .int .i64 t302, .int .i64 t303, .int .i64 t304, .int .i64 t305, .bool t306] 26 (0, 0)) (q1466_ BK308.out) hb); have n3_ := Aside0.mk (blk_below (g := gb324) (o := .cells #[.string t316, .int .i64 t317, .int .i64 t318, .int .i64 t319, .int .i64 t320, .int .i64 t321, .bool t322] 26 (0, 0)) (q1466_ BK324.out) hb); have n4_ := Aside0.mk (blk_below (g := gb337) (o := .cells #[.string t329, .int .i64 t330, .int .i64 t331, .int .i64 t332, .int .i64 t333, .int .i64 t334, .bool t335] 26 (0, 0)) (q1466_ BK337.out) hb); have n5_ := Aside0.mk (below_step (q1dc4_ HB.out GE308.out GE324.out GE337.out) hb); have n6_ := Aside0.mk (hbox); have n7_ := Aside0.mk ((by rw [hg]; exact (below_size (q1dc4_ HB.out GE308.out GE324.out GE337.out)) : w.heap.size ≤ gb378)); have n8_ := Aside0.mk ((by rw [hg]; exact (below_size (q1dc4_ HB.out GE308.out GE324.out GE337.out)) : w.heap.size ≤ gb378)); have n9_ := Aside0.mk ((by rw [hg]; exact Nat.ne_of_lt (blk_lt (g := gb308) (o := .cells #[.string t300, .int .i64 t301, .int .i64 t302, .int .i64 t303, .int .i64 t304, .int .i64 t305, .bool t306] 26 (0, 0)) (q1466_ BK308.out)) : gb308 ≠ gb378)); have n10_ := Aside0.mk ((by rw [hg]; exact Nat.ne_of_gt (blk_lt (g := gb308) (o := .cells #[.string t300, .int .i64 t301, .int .i64 t302, .int .i64 t303, .int .i64 t304, .int .i64 t305, .bool t306] 26 (0, 0)) (q1466_ BK308.out)) : gb378 ≠ gb308)); have n11_ := Aside0.mk ((by rw [hg]; exact Nat.ne_of_lt (blk_lt (g := gb324) (o := .cells #[.string t316, .int .i64 t317, .int .i64 t318, .int .i64 t319, .int .i64 t320, .int .i64 t321, .bool t322] 26 (0, 0)) (q1466_ BK324.out)) : gb324 ≠ gb378)); have n12_ := Aside0.mk ((by rw [hg]; exact Nat.ne_of_gt (blk_lt (g := gb324) (o := .cells #[.string t316, .int .i64 t317, .int .i64 t318, .int .i64 t319, .int .i64 t320, .int .i64 t321, .bool t322] 26 (0, 0)) (q1466_ BK324.out)) : gb378 ≠ gb324)); have n13_ := Aside0.mk ((by rw [hg]; exact Nat.ne_of_lt (blk_lt (g := gb337) (o := .cells #[.string t329, .int .i64 t330, .int .i64 t331, .int .i64 t332, .int .i64 t333, .int .i64 t334, .bool t335] 26 (0, 0)) (q1466_ BK337.out)) : gb337 ≠ gb378)); have n14_ := Aside0.mk ((by rw [hg]; exact Nat.ne_of_gt (blk_lt (g := gb337) (o := .cells #[.string t329, .int .i64 t330, .int .i64 t331, .int .i64 t332, .int .i64 t333, .int .i64 t334, .bool t335] 26 (0, 0)) (q1466_ BK337.out)) : gb378 ≠ gb337)); clear HO_8; clear HO369; clear BK308; clear BK324; clear BK337; clear HB; have HO_8 := n0_; have HO369 := n1_; have BK308 := n2_; have BK324 := n3_; have BK337 := n4_; have HB := n5_; have BK378 := n6_; have GW378 := n7_; have GE378 := n8_; have NB308_378 := n9_; have NB378_308 := n10_; have NB324_378 := n11_; have NB378_324 := n12_; have NB337_378 := n13_; have NB378_337 := n14_; clear n0_ n1_ n2_ n3_ n4_ n5_ n6_ n7_ n8_ n9_ n10_ n11_ n12_ n13_ n14_; clear hb hbox hg; have hnb111 := NB378_308.out; have hnc111 := NB308_378.out; have hnb112 := NB378_324.out; have hnc112 := NB324_378.out; have hnb113 := NB378_337.out; have hnc113 := NB337_378.out; have hcz114_0 : w110.cell? ⟨gb378, 0, none⟩ = some (.string (⟨#[]⟩ : ByteArray)) := (blk_cell BK378.out 0).trans rfl; have hcz114_1 : w110.cell? ⟨gb378, 1, none⟩ = some (.int .i64 0) := (blk_cell BK378.out 1).trans rfl; have hcz114_2 : w110.cell? ⟨gb378, 2, none⟩ = some (.int .i64 0) := (blk_cell BK378.out 2).trans rfl; have hcz114_3 : w110.cell? ⟨gb378, 3, none⟩ = some (.int .i64 0) := (blk_cell BK378.out 3).trans rfl; have hcz114_4 : w110.cell? ⟨gb378, 4, none⟩ = some (.int .i64 0) := (blk_cell BK378.out 4).trans rfl; have hcz114_5 : w110.cell? ⟨gb378, 5, none⟩ = some (.int .i64 0) := (blk_cell BK378.out 5).trans rfl; have hcz114_6 : w110.cell? ⟨gb378, 6, none⟩ = some (.bool false) := (blk_cell BK378.out 6).trans rfl; have hfz114_0 := blk_frozen BK378.out 0; have hfz114_1 := blk_frozen BK378.out 1; have hfz114_2 := blk_frozen BK378.out 2; have hfz114_3 := blk_frozen BK378.out 3; have hfz114_4 := blk_frozen BK378.out 4; have hfz114_5 := blk_frozen BK378.out 5; have hfz114_6 := blk_frozen BK378.out 6; have hcz115_0 : w110.cell? ⟨gb308, 0, none⟩ = some (.string t300) := (blk_cell BK308.out 0).trans rfl; have hcz115_1 : w110.cell? ⟨gb308, 1, none⟩ = some (.int .i64 t301) := (blk_cell BK308.out 1).trans rfl; have hcz115_2 : w110.cell? ⟨gb308, 2, none⟩ = some (.int .i64 t302) := (blk_cell BK308.out 2).trans rfl; have hcz115_3 : w110.cell? ⟨gb308, 3, none⟩ = some (.int .i64 t303) := (blk_cell BK308.out 3).trans rfl; have hcz115_4 : w110.cell? ⟨gb308, 4, none⟩ = some (.int .i64 t304) := (blk_cell BK308.out 4).trans rfl; have hcz115_5 : w110.cell? ⟨gb308, 5, none⟩ = some (.int .i64 t305) := (blk_cell BK308.out 5).trans rfl; have hcz115_6 : w110.cell? ⟨gb308, 6, none⟩ = some (.bool t306) := (blk_cell BK308.out 6).trans rfl; have hfz115_0 := blk_frozen BK308.out 0; have hfz115_1 := blk_frozen BK308.out 1; have hfz115_2 := blk_frozen BK308.out 2; have hfz115_3 := blk_frozen BK308.out 3; have hfz115_4 := blk_frozen BK308.out 4; have hfz115_5 := blk_frozen BK308.out 5; have hfz115_6 := blk_frozen BK308.out 6) | (go_at_call 8; (with_reducible refine (caravanlaw4_awake.calls  t379 _ A100.out).mono ?_); rintro e w116 ⟨rfl, hb⟩; have n0_ := Aside0.mk (Kd.R_below (by (with_reducible repeat (first | apply Kd.R_alloc | apply Kd.R_drewN | apply Kd.R_drew)); exact (Kd.R_mono (Kd.R_far (p := ⟨gb378, 6, none⟩) (Kd.R_far (p := ⟨gb378, 5, none⟩) (Kd.R_far (p := ⟨gb378, 4, none⟩) (Kd.R_far (p := ⟨gb378, 3, none⟩) (Kd.R_far (p := ⟨gb378, 2, none⟩) (Kd.R_far (p := ⟨gb378, 1, none⟩) (Kd.R_far (p := ⟨gb378, 0, none⟩) (Kd.R_types HO_8.out BK378.out (by decide)) (fun _ hk => hk.2) (.string t370)) (fun _ hk => hk.2) (.int .i64 t371)) (fun _ hk => hk.2) (.int .i64 t372)) (fun _ hk => hk.2) (.int .i64 t373)) (fun _ hk => hk.2) (.int .i64 t374)) (fun _ hk => hk.2) (.int .i64 t375)) (fun _ hk => hk.2) (.bool t376)) (fun _ h_ => h_.1))) hb); have n1_ := Aside0.mk (Kd.R_below (by (with_reducible repeat (first | apply Kd.R_alloc | apply Kd.R_drewN | apply Kd.R_drew)); exact (Kd.R_mono (Kd.R_far (p := ⟨gb378, 6, none⟩) (Kd.R_far (p := ⟨gb378, 5, none⟩) (Kd.R_far (p := ⟨gb378, 4, none⟩) (Kd.R_far (p := ⟨gb378, 3, none⟩) (Kd.R_far (p := ⟨gb378, 2, none⟩) (Kd.R_far (p := ⟨gb378, 1, none⟩) (Kd.R_far (p := ⟨gb378, 0, none⟩) (Kd.R_types HO369.out BK378.out (by decide)) (fun _ hk => hk.2) (.string t370)) (fun _ hk => hk.2) (.int .i64 t371)) (fun _ hk => hk.2) (.int .i64 t372)) (fun _ hk => hk.2) (.int .i64 t373)) (fun _ hk => hk.2) (.int .i64 t374)) (fun _ hk => hk.2) (.int .i64 t375)) (fun _ hk => hk.2) (.bool t376)) (fun _ h_ => h_.1))) hb); have n2_ := Aside0.mk (blk_below (g := gb308) (o := .cells #[.string t300, .int .i64 t301, .int .i64 t302, .int .i64 t303, .int .i64 t304, .int .i64 t305, .bool t306] 26 (0, 0)) (q34cc_ NB308_378.out BK308.out) hb); have n3_ := Aside0.mk (blk_below (g := gb324) (o := .cells #[.string t316, .int .i64 t317, .int .i64 t318, .int .i64 t319, .int .i64 t320, .int .i64 t321, .bool t322] 26 (0, 0)) (q34cc_ NB324_378.out BK324.out) hb); have n4_ := Aside0.mk (blk_below (g := gb337) (o := .cells #[.string t329, .int .i64 t330, .int .i64 t331, .int .i64 t332, .int .i64 t333, .int .i64 t334, .bool t335] 26 (0, 0)) (q34cc_ NB337_378.out BK337.out) hb); have n5_ := Aside0.mk (blk_below (g := gb378) (o := .cells #[.string t370, .int .i64 t371, .int .i64 t372, .int .i64 t373, .int .i64 t374, .int .i64 t375, .bool t376] 26 (0, 0)) (by (with_reducible repeat (first | refine blk_drewN ?_ _ | refine blk_drew ?_ | refine blk_alloc ?_ _)); refine blk_put (cs := #[.string t370, .int .i64 t371, .int .i64 t372, .int .i64 t373, .int .i64 t374, .int .i64 t375, .bool false]) ?_ 6 _ rfl; (with_reducible repeat (first | refine blk_drewN ?_ _ | refine blk_drew ?_ | refine blk_alloc ?_ _)); refine blk_put (cs := #[.string t370, .int .i64 t371, .int .i64 t372, .int .i64 t373, .int .i64 t374, .int .i64 0, .bool false]) ?_ 5 _ rfl; (with_reducible repeat (first | refine blk_drewN ?_ _ | refine blk_drew ?_ | refine blk_alloc ?_ _)); refine blk_put (cs := #[.string t370, .int .i64 t371, .int .i64 t372, .int .i64 t373, .int .i64 0, .int .i64 0, .bool false]) ?_ 4 _ rfl; (with_reducible repeat (first | refine blk_drewN ?_ _ | refine blk_drew ?_ | refine blk_alloc ?_ _)); refine blk_put (cs := #[.string t370, .int .i64 t371, .int .i64 t372, .int .i64 0, .int .i64 0, .int .i64 0, .bool false]) ?_ 3 _ rfl; (with_reducible repeat (first | refine blk_drewN ?_ _ | refine blk_drew ?_ | refine blk_alloc ?_ _)); refine blk_put (cs := #[.string t370, .int .i64 t371, .int .i64 0, .int .i64 0, .int .i64 0, .int .i64 0, .bool false]) ?_ 2 _ rfl; (with_reducible repeat (first | refine blk_drewN ?_ _ | refine blk_drew ?_ | refine blk_alloc ?_ _)); refine blk_put (cs := #[.string t370, .int .i64 0, .int .i64 0, .int .i64 0, .int .i64 0, .int .i64 0, .bool false]) ?_ 1 _ rfl; (with_reducible repeat (first | refine blk_drewN ?_ _ | refine blk_drew ?_ | refine blk_alloc ?_ _)); refine blk_put (cs := #[.string (⟨#[]⟩ : ByteArray), .int .i64 0, .int .i64 0, .int .i64 0, .int .i64 0, .int .i64 0, .bool false]) ?_ 0 _ rfl; (with_reducible repeat (first | refine blk_drewN ?_ _ | refine blk_drew ?_ | refine blk_alloc ?_ _)); exact BK378.out) hb); have n6_ := Aside0.mk (below_step (qb40c_ HB.out GE308.out GE324.out GE337.out GE378.out) hb); clear HO_8; clear HO369; clear BK308; clear BK324; clear BK337; clear BK378; clear HB; have HO_8 := n0_; have HO369 := n1_; have BK308 := n2_; have BK324 := n3_; have BK337 := n4_; have BK378 := n5_; have HB := n6_; clear n0_ n1_ n2_ n3_ n4_ n5_ n6_; (try clear hb); (try clear hb2); (try clear hk); (try clear hi)))
                     go_ret
                     exact ⟨by first | rfl | (simp [errW_none, errW_some] <;> rfl) | (simp only [← hji5, ← hji32]; first | rfl | (simp [errW_none, errW_some] <;> rfl)) | (simp [*, errW_none, errW_some] <;> rfl), (qb40c_ HB.out GE308.out GE324.out GE337.out GE378.out)⟩
                    ·rw [if_neg c99] at H
                     have c99b0 : ((!t377) == (t302 == t301)) = false := by simpa using c99
                     (try (have c99b1 : decide ((!t377) = (t302 == t301)) = false := by simpa using c99))
                     (try (have c99b2 : ((!t377) == (t302 == t301)) = false := by simpa using c99))
                     (try (have c99b3 : ¬ ((!t377) = (t302 == t301)) := by simpa using c99))
                     clear c99
                     subst hrt_; exact absurd H (by simp)
                   ·rw [if_neg c97] at H
                    exact absurd H (by simp)
                  ·rw [if_neg c96] at H
                   exact absurd H (by simp)
                 ·rw [if_neg c95] at H
                  have c95b0 : decide (0 < t302) = false := decide_eq_false c95
                  clear c95
                  have H' := Aside0.mk H
                  clear H
                  have hnb117 := NB308_324.out
                  have hnc117 := NB324_308.out
                  have hnb118 := NB308_337.out
                  have hnc118 := NB337_308.out
                  have hcz119_0 : wc.cell? ⟨gb308, 0, none⟩ = some (.string t300) := (blk_cell BK308.out 0).trans rfl
                  have hcz119_1 : wc.cell? ⟨gb308, 1, none⟩ = some (.int .i64 t301) := (blk_cell BK308.out 1).trans rfl
                  have hcz119_2 : wc.cell? ⟨gb308, 2, none⟩ = some (.int .i64 t302) := (blk_cell BK308.out 2).trans rfl
                  have hcz119_3 : wc.cell? ⟨gb308, 3, none⟩ = some (.int .i64 t303) := (blk_cell BK308.out 3).trans rfl
                  have hcz119_4 : wc.cell? ⟨gb308, 4, none⟩ = some (.int .i64 t304) := (blk_cell BK308.out 4).trans rfl
                  have hcz119_5 : wc.cell? ⟨gb308, 5, none⟩ = some (.int .i64 t305) := (blk_cell BK308.out 5).trans rfl
                  have hcz119_6 : wc.cell? ⟨gb308, 6, none⟩ = some (.bool t306) := (blk_cell BK308.out 6).trans rfl
                  have hfz119_0 := blk_frozen BK308.out 0
                  have hfz119_1 := blk_frozen BK308.out 1
                  have hfz119_2 := blk_frozen BK308.out 2
                  have hfz119_3 := blk_frozen BK308.out 3
                  have hfz119_4 := blk_frozen BK308.out 4
                  have hfz119_5 := blk_frozen BK308.out 5
                  have hfz119_6 := blk_frozen BK308.out 6
                  go_wp2
                  go_loopg [8, 19] kj69 (fun kq v8 v19 w' => ∃ (x8_5 : List ByteArray) (x19_5 : Int), v19 = .int .i64 x19_5 ∧ Aside0 (caravanlaw4_CmdKeys.l1 kq a1 x8_5 x19_5 = some r) ∧ Aside0 (kq ≤ kj69) ∧ Aside0 (Kd.R Kd.string 9 w' w.heap.size (fun _ => True) v8 x8_5) ∧ Aside0 (w'.heap[gb308]? = some (.cells #[.string t300, .int .i64 t301, .int .i64 t302, .int .i64 t303, .int .i64 t304, .int .i64 t305, .bool t306] 26 (0, 0))) ∧ Aside0 (w'.heap[gb324]? = some (.cells #[.string t316, .int .i64 t317, .int .i64 t318, .int .i64 t319, .int .i64 t320, .int .i64 t321, .bool t322] 26 (0, 0))) ∧ Aside0 (w'.heap[gb337]? = some (.cells #[.string t329, .int .i64 t330, .int .i64 t331, .int .i64 t332, .int .i64 t333, .int .i64 t334, .bool t335] 26 (0, 0))) ∧ Aside0 (Below w.heap.size w w'))
                  case atStart => exact ⟨(x8_69), (0), (by first | rfl | (simp; done) | (simp [*]; done)), H', ⟨Nat.le_refl _⟩, ⟨by (try simp only [hl8_69]); (with_reducible repeat (first | apply Kd.R_alloc | apply Kd.R_drewN | apply Kd.R_drew)); exact HO_8.out⟩, ⟨by (try simp only [hl8_69]); (with_reducible repeat (first | refine blk_drewN ?_ _ | refine blk_drew ?_ | refine blk_alloc ?_ _)); exact BK308.out⟩, ⟨by (try simp only [hl8_69]); (with_reducible repeat (first | refine blk_drewN ?_ _ | refine blk_drew ?_ | refine blk_alloc ?_ _)); exact BK324.out⟩, ⟨by (try simp only [hl8_69]); (with_reducible repeat (first | refine blk_drewN ?_ _ | refine blk_drew ?_ | refine blk_alloc ?_ _)); exact BK337.out⟩, ⟨(q1dc4_ HB.out GE308.out GE324.out GE337.out)⟩⟩
                  case round =>
                   clear H'
                   try clear c1
                   try clear c2
                   try clear p2
                   try clear q2
                   try clear hx2
                   try clear c3
                   try clear p3
                   try clear q3
                   try clear hx3
                   try clear qi3
                   try clear c4
                   try clear c4b0
                   try clear c4b1
                   try clear c4b2
                   try clear q4
                   try clear c5
                   try clear c6
                   try clear c6b0
                   try clear p6
                   try clear c7
                   try clear c7b0
                   try clear p7
                   try clear q7
                   try clear hx7
                   try clear qi7
                   try clear hf7
                   try clear c8
                   try clear c9
                   try clear c10
                   try clear c11
                   try clear c14
                   try clear c15
                   try clear c16
                   try clear c16b0
                   try clear c17
                   try clear c19
                   try clear c23
                   try clear c23b0
                   try clear c25
                   try clear c25b0
                   try clear c25b1
                   try clear c25b2
                   try clear c26
                   try clear p29
                   try clear q29
                   try clear hx29
                   try clear c33
                   try clear c33b0
                   try clear c33b1
                   try clear c34
                   try clear c34b0
                   try clear c34b1
                   try clear p34
                   try clear q34
                   try clear hx34
                   try clear qi34
                   try clear c42
                   try clear q45
                   try clear c48
                   try clear c49
                   try clear c52
                   try clear c53
                   try clear c54
                   try clear c54b0
                   try clear c54b1
                   try clear c54b2
                   try clear c55
                   try clear c56
                   try clear c59
                   try clear c59b0
                   try clear c60
                   try clear c60b0
                   try clear c60b1
                   try clear c61
                   try clear c62
                   try clear p64
                   try clear c65
                   try clear c66
                   try clear c69
                   try clear c71
                   try clear c72
                   try clear c74
                   try clear c74b0
                   try clear c75
                   try clear c76
                   try clear c76b0
                   try clear c76b1
                   try clear p77
                   try clear q77
                   try clear hx77
                   try clear qi77
                   try clear hf77
                   try clear c79
                   try clear c81
                   try clear c81b0
                   try clear c81b1
                   try clear c81b2
                   try clear c89
                   try clear c90
                   try clear c91
                   try clear c95
                   try clear c95b0
                   try clear c96
                   try clear c97
                   try clear c99
                   try clear c99b0
                   try clear c99b1
                   try clear c99b2
                   try clear c101
                   try clear c102
                   try clear c111
                   try clear c112
                   try clear c113
                   try clear c117
                   try clear c118
                   try clear hcz103_0
                   try clear hcz103_1
                   try clear hcz103_2
                   try clear hcz103_3
                   try clear hcz103_4
                   try clear hcz103_5
                   try clear hcz103_6
                   try clear hcz114_0
                   try clear hcz114_1
                   try clear hcz114_2
                   try clear hcz114_3
                   try clear hcz114_4
                   try clear hcz114_5
                   try clear hcz114_6
                   try clear hcz115_0
                   try clear hcz115_1
                   try clear hcz115_2
                   try clear hcz115_3
                   try clear hcz115_4
                   try clear hcz115_5
                   try clear hcz115_6
                   try clear hcz119_0
                   try clear hcz119_1
                   try clear hcz119_2
                   try clear hcz119_3
                   try clear hcz119_4
                   try clear hcz119_5
                   try clear hcz119_6
                   try clear hcz14_0
                   try clear hcz14_1
                   try clear hcz14_2
                   try clear hcz14_3
                   try clear hcz14_4
                   try clear hcz14_5
                   try clear hcz14_6
                   try clear hcz17_0
                   try clear hcz17_1
                   try clear hcz17_2
                   try clear hcz17_3
                   try clear hcz17_4
                   try clear hcz17_5
                   try clear hcz17_6
                   try clear hcz18_0
                   try clear hcz18_1
                   try clear hcz18_2
                   try clear hcz18_3
                   try clear hcz18_4
                   try clear hcz18_5
                   try clear hcz18_6
                   try clear hcz20_0
                   try clear hcz20_1
                   try clear hcz20_2
                   try clear hcz20_3
                   try clear hcz20_4
                   try clear hcz20_5
                   try clear hcz20_6
                   try clear hcz28_0
                   try clear hcz28_1
                   try clear hcz28_2
                   try clear hcz28_3
                   try clear hcz28_4
                   try clear hcz28_5
                   try clear hcz28_6
                   try clear hcz39_0
                   try clear hcz39_1
                   try clear hcz39_2
                   try clear hcz39_3
                   try clear hcz39_4
                   try clear hcz39_5
                   try clear hcz39_6
                   try clear hcz43_0
                   try clear hcz43_1
                   try clear hcz43_2
                   try clear hcz43_3
                   try clear hcz43_4
                   try clear hcz43_5
                   try clear hcz43_6
                   try clear hcz50_0
                   try clear hcz50_1
                   try clear hcz50_2
                   try clear hcz50_3
                   try clear hcz50_4
                   try clear hcz50_5
                   try clear hcz50_6
                   try clear hcz57_0
                   try clear hcz57_1
                   try clear hcz57_2
                   try clear hcz57_3
                   try clear hcz57_4
                   try clear hcz57_5
                   try clear hcz57_6
                   try clear hcz63_0
                   try clear hcz63_1
                   try clear hcz63_2
                   try clear hcz63_3
                   try clear hcz63_4
                   try clear hcz63_5
                   try clear hcz63_6
                   try clear hcz67_0
                   try clear hcz67_1
                   try clear hcz67_2
                   try clear hcz67_3
                   try clear hcz67_4
                   try clear hcz67_5
                   try clear hcz67_6
                   try clear hcz73_0
                   try clear hcz73_1
                   try clear hcz73_2
                   try clear hcz73_3
                   try clear hcz73_4
                   try clear hcz73_5
                   try clear hcz73_6
                   try clear hcz92_0
                   try clear hcz92_1
                   try clear hcz92_2
                   try clear hcz92_3
                   try clear hcz92_4
                   try clear hcz92_5
                   try clear hcz92_6
                   try clear hfz103_0
                   try clear hfz103_1
                   try clear hfz103_2
                   try clear hfz103_3
                   try clear hfz103_4
                   try clear hfz103_5
                   try clear hfz103_6
                   try clear hfz114_0
                   try clear hfz114_1
                   try clear hfz114_2
                   try clear hfz114_3
                   try clear hfz114_4
                   try clear hfz114_5
                   try clear hfz114_6
                   try clear hfz115_0
                   try clear hfz115_1
                   try clear hfz115_2
                   try clear hfz115_3
                   try clear hfz115_4
                   try clear hfz115_5
                   try clear hfz115_6
                   try clear hfz119_0
                   try clear hfz119_1
                   try clear hfz119_2
                   try clear hfz119_3
                   try clear hfz119_4
                   try clear hfz119_5
                   try clear hfz119_6
                   try clear hfz14_0
                   try clear hfz14_1
                   try clear hfz14_2
                   try clear hfz14_3
                   try clear hfz14_4
                   try clear hfz14_5
                   try clear hfz14_6
                   try clear hfz17_0
                   try clear hfz17_1
                   try clear hfz17_2
                   try clear hfz17_3
                   try clear hfz17_4
                   try clear hfz17_5
                   try clear hfz17_6
                   try clear hfz18_0
                   try clear hfz18_1
                   try clear hfz18_2
                   try clear hfz18_3
                   try clear hfz18_4
                   try clear hfz18_5
                   try clear hfz18_6
                   try clear hfz20_0
                   try clear hfz20_1
                   try clear hfz20_2
                   try clear hfz20_3
                   try clear hfz20_4
                   try clear hfz20_5
                   try clear hfz20_6
                   try clear hfz28_0
                   try clear hfz28_1
                   try clear hfz28_2
                   try clear hfz28_3
                   try clear hfz28_4
                   try clear hfz28_5
                   try clear hfz28_6
                   try clear hfz39_0
                   try clear hfz39_1
                   try clear hfz39_2
                   try clear hfz39_3
                   try clear hfz39_4
                   try clear hfz39_5
                   try clear hfz39_6
                   try clear hfz43_0
                   try clear hfz43_1
                   try clear hfz43_2
                   try clear hfz43_3
                   try clear hfz43_4
                   try clear hfz43_5
                   try clear hfz43_6
                   try clear hfz50_0
                   try clear hfz50_1
                   try clear hfz50_2
                   try clear hfz50_3
                   try clear hfz50_4
                   try clear hfz50_5
                   try clear hfz50_6
                   try clear hfz57_0
                   try clear hfz57_1
                   try clear hfz57_2
                   try clear hfz57_3
                   try clear hfz57_4
                   try clear hfz57_5
                   try clear hfz57_6
                   try clear hfz63_0
                   try clear hfz63_1
                   try clear hfz63_2
                   try clear hfz63_3
                   try clear hfz63_4
                   try clear hfz63_5
                   try clear hfz63_6
                   try clear hfz67_0
                   try clear hfz67_1
                   try clear hfz67_2
                   try clear hfz67_3
                   try clear hfz67_4
                   try clear hfz67_5
                   try clear hfz67_6
                   try clear hfz73_0
                   try clear hfz73_1
                   try clear hfz73_2
                   try clear hfz73_3
                   try clear hfz73_4
                   try clear hfz73_5
                   try clear hfz73_6
                   try clear hfz92_0
                   try clear hfz92_1
                   try clear hfz92_2
                   try clear hfz92_3
                   try clear hfz92_4
                   try clear hfz92_5
                   try clear hfz92_6
                   try clear hx299_0
                   try clear hx341_0
                   try clear hx77_0
                   try clear p2
                   try clear p29
                   try clear p299
                   try clear p3
                   try clear p34
                   try clear p341
                   try clear p6
                   try clear p64
                   try clear p7
                   try clear p77
                   try clear q2
                   try clear q29
                   try clear q299
                   try clear q3
                   try clear q34
                   try clear q341
                   try clear q4
                   try clear q45
                   try clear q7
                   try clear q77
                   obtain ⟨x8_5, x19_5, rfl, HA, HK5, HO_8, BK308, BK324, BK337, HB⟩ := hrel
                   cases gk with
                   | zero => exact absurd HA.out (by simp [caravanlaw4_CmdKeys.l1])
                   | succ k5 =>
                    have H := HA.out
                    clear HA
                    simp only [caravanlaw4_CmdKeys.l1] at H
                    by_cases c120 : x19_5 < (wrap64 (2 * (Int.tmod (wrap64 (a1)) 20)))
                    ·rw [if_pos c120] at H
                     have c120b0 : decide (x19_5 < (wrap64 (2 * (Int.tmod (wrap64 (a1)) 20)))) = true := decide_eq_true c120
                     clear c120
                     by_cases c121 : x8_5.length < 8796093022208
                     ·rw [if_pos c121] at H
                      have LMc121 := Aside0.mk c121
                      clear c121
                      obtain ⟨y380, hy380⟩ : ∃ y_ : List ByteArray, y_ = (x8_5 ++ [(⟨#[109]⟩ : ByteArray)]) := ⟨_, rfl⟩
                      replace H : (caravanlaw4_CmdKeys.l1 k5 a1 y380 (wrap64 (x19_5 + 1))) = some r := by first | (rw [hy380]; with_reducible exact H) | (have H2_ := (Option.bind_some _ _).symm.trans H; rw [hy380]; with_reducible exact H2_) | (have H2_ := (Option.bind_some _ _).symm.trans H; with_reducible exact H2_) | with_reducible exact H | (rw [hy380]; exact H) | exact H
                      have Ny380 := Aside0.mk hy380
                      clear hy380
                      have H' := Aside0.mk H
                      clear H
                      go_wp2_with (first | ((with_reducible refine gate_builtin (b := .append) (xs := #[.tmp 157, .tmp 158]) rfl ?_); (try (refine gate_guard (by rfl) ?_; dsimp only)); at_builtin; refine Kd.R_append Kd.string (w0 := w) w.heap.size rfl (.tmp 157) (.tmp 158) 22 9 (.string ⟨#[]⟩) 16 rfl Try.underlying22 info9 rfl (by decide) (by omega) u8 x8_5 (⟨#[109]⟩ : ByteArray) [.string (⟨#[109]⟩ : ByteArray)] (fun _ => True) (fun _ => False) rfl rfl ?aP (fun _ hk => hk.elim) ?aF ?aO ?aB ?aS ?aL ?_; (case aP => exact rfl); (case aB => exact (q1dc4_ HB.out GE308.out GE324.out GE337.out)); (case aF => exact (fun _ _ => trivial)); (case aO => exact (q8524_ HO_8.out)); (case aS => exact (below_size (q1dc4_ HB.out GE308.out GE324.out GE337.out))); (case aL => have := LMc121.out; omega); intro v381 w122 ho hb hg hat; rw [← Ny380.out] at ho; have n0_ := Aside0.mk (blk_grown (g := gb308) (o := .cells #[.string t300, .int .i64 t301, .int .i64 t302, .int .i64 t303, .int .i64 t304, .int .i64 t305, .bool t306] 26 (0, 0)) (q1466_ BK308.out) hg (Kd.R_ne HO_8.out BK308.out (by decide))); have n1_ := Aside0.mk (blk_grown (g := gb324) (o := .cells #[.string t316, .int .i64 t317, .int .i64 t318, .int .i64 t319, .int .i64 t320, .int .i64 t321, .bool t322] 26 (0, 0)) (q1466_ BK324.out) hg (Kd.R_ne HO_8.out BK324.out (by decide))); have n2_ := Aside0.mk (blk_grown (g := gb337) (o := .cells #[.string t329, .int .i64 t330, .int .i64 t331, .int .i64 t332, .int .i64 t333, .int .i64 t334, .bool t335] 26 (0, 0)) (q1466_ BK337.out) hg (Kd.R_ne HO_8.out BK337.out (by decide))); have n3_ := Aside0.mk (hb); have n4_ := Aside0.mk (ho); clear BK308; clear BK324; clear BK337; clear HB; clear HO_8; have BK308 := n0_; have BK324 := n1_; have BK337 := n2_; have HB := n3_; have HO382 := n4_; clear n0_ n1_ n2_ n3_ n4_; clear ho hb hg hat))
                      go_roundg k5
                      case measure => have := HJ8.out; have := HK2.out; have := HJ36.out; have := HJ69.out; have := HK5.out; omega
                      case rel => exact ⟨(y380), (wrap64 (x19_5 + 1)), (by first | rfl | (simp; done) | (simp [*]; done)), H', ⟨by have := HJ8.out; have := HK2.out; have := HJ36.out; have := HJ69.out; have := HK5.out; omega⟩, ⟨by (try simp only [hl8_69]); (with_reducible repeat (first | apply Kd.R_alloc | apply Kd.R_drewN | apply Kd.R_drew)); exact HO382.out⟩, ⟨by (try simp only [hl8_69]); (with_reducible repeat (first | refine blk_drewN ?_ _ | refine blk_drew ?_ | refine blk_alloc ?_ _)); exact BK308.out⟩, ⟨by (try simp only [hl8_69]); (with_reducible repeat (first | refine blk_drewN ?_ _ | refine blk_drew ?_ | refine blk_alloc ?_ _)); exact BK324.out⟩, ⟨by (try simp only [hl8_69]); (with_reducible repeat (first | refine blk_drewN ?_ _ | refine blk_drew ?_ | refine blk_alloc ?_ _)); exact BK337.out⟩, ⟨(q1dc4_ HB.out GE308.out GE324.out GE337.out)⟩⟩
                     ·rw [if_neg c121] at H
                      exact absurd H (by simp)
                    ·rw [if_neg c120] at H
                     have c120b0 : decide (x19_5 < (wrap64 (2 * (Int.tmod (wrap64 (a1)) 20)))) = false := decide_eq_false c120
                     clear c120
                     replace H := Option.bind_eq_some_iff.mp H
                     obtain ⟨⟨t383, t384, t385, t386, t387, t388, t389, t390⟩, A1230, H⟩ := H
                     replace H : (if t390 = true then ((caravanlaw4_awake.f).bind fun t392 => (some t392)) else (some false)) = some r := H
                     have A123 := Aside0.mk A1230
                     clear A1230
                     by_cases c124 : t390 = true
                     ·subst c124
                      have H1 : ((caravanlaw4_awake.f).bind fun t392 => (some t392)) = some r := by rw [if_pos rfl] at H; exact H
                      clear H
                      have H := H1
                      clear H1
                      replace H := Option.bind_eq_some_iff.mp H
                      obtain ⟨t392, A1250, H⟩ := H
                      replace H : (some t392) = some r := H
                      have A125 := Aside0.mk A1250
                      clear A1250
                      obtain rfl := Option.some.inj H
                      obtain ⟨Ao126, co126, eo126⟩ := Kd.R_slice HO_8.out
                      subst eo126
                      go_wp2_with (first | ((with_reducible refine gate_callee (f := 9) rfl ?_); refine goesL_ (some 162) rfl rfl Try.func9 (by kernel_rfl) rfl #[.slice Ao126 x8_5.length co126] rfl qM_ ?_; (with_reducible refine (cmd_Check.calls _ _ x8_5 t383 t384 t385 t386 t387 t388 t389 true _ ?side1 ?side2 A123.out).mono ?_); (case side1 => exact qC_ ((Kd.R_reads' HO_8.out).2.2)); (case side2 => exact (Kd.R_reads' HO_8.out).2.1); rintro e w127 ⟨rfl, hb⟩; refine ⟨_, rfl, ?_⟩; have n0_ := Aside0.mk (Kd.R_below (q8524_ HO_8.out) hb); have n1_ := Aside0.mk (blk_below (g := gb308) (o := .cells #[.string t300, .int .i64 t301, .int .i64 t302, .int .i64 t303, .int .i64 t304, .int .i64 t305, .bool t306] 26 (0, 0)) (q1466_ BK308.out) hb); have n2_ := Aside0.mk (blk_below (g := gb324) (o := .cells #[.string t316, .int .i64 t317, .int .i64 t318, .int .i64 t319, .int .i64 t320, .int .i64 t321, .bool t322] 26 (0, 0)) (q1466_ BK324.out) hb); have n3_ := Aside0.mk (blk_below (g := gb337) (o := .cells #[.string t329, .int .i64 t330, .int .i64 t331, .int .i64 t332, .int .i64 t333, .int .i64 t334, .bool t335] 26 (0, 0)) (q1466_ BK337.out) hb); have n4_ := Aside0.mk (below_step (q1dc4_ HB.out GE308.out GE324.out GE337.out) hb); clear HO_8; clear BK308; clear BK324; clear BK337; clear HB; have HO_8 := n0_; have BK308 := n1_; have BK324 := n2_; have BK337 := n3_; have HB := n4_; clear n0_ n1_ n2_ n3_ n4_; (try clear hb); (try clear hb2); (try clear hk); (try clear hi)) | ((with_reducible refine gate_dst (N := 20) rfl ?_); (try (refine gate_guard (by rfl) ?_; dsimp only)); refine box_event ?hg (N := 20) ?hd (cs := #[.string (⟨#[]⟩ : ByteArray), .int .i64 0, .int .i64 0, .int .i64 0, .int .i64 0, .int .i64 0, .bool false]) (t := 26) ?hr ?_; (case hd => rfl); (case hg => rfl); (case hr => first | (go_simp; done) | (go_simp; rfl)); intro gb391 hg w128 hbox hb; have n0_ := Aside0.mk (Kd.R_below (q8524_ HO_8.out) hb); have n1_ := Aside0.mk (blk_below (g := gb308) (o := .cells #[.string t300, .int .i64 t301, .int .i64 t302, .int .i64 t303, .int .i64 t304, .int .i64 t305, .bool t306] 26 (0, 0)) (q1466_ BK308.out) hb); have n2_ := Aside0.mk (blk_below (g := gb324) (o := .cells #[.string t316, .int .i64 t317, .int .i64 t318, .int .i64 t319, .int .i64 t320, .int .i64 t321, .bool t322] 26 (0, 0)) (q1466_ BK324.out) hb); have n3_ := Aside0.mk (blk_below (g := gb337) (o := .cells #[.string t329, .int .i64 t330, .int .i64 t331, .int .i64 t332, .int .i64 t333, .int .i64 t334, .bool t335] 26 (0, 0)) (q1466_ BK337.out) hb); have n4_ := Aside0.mk (below_step (q1dc4_ HB.out GE308.out GE324.out GE337.out) hb); have n5_ := Aside0.mk (hbox); have n6_ := Aside0.mk ((by rw [hg]; exact (below_size (q1dc4_ HB.out GE308.out GE324.out GE337.out)) : w.heap.size ≤ gb391)); have n7_ := Aside0.mk ((by rw [hg]; exact (below_size (q1dc4_ HB.out GE308.out GE324.out GE337.out)) : w.heap.size ≤ gb391)); have n8_ := Aside0.mk ((by rw [hg]; exact Nat.ne_of_lt (blk_lt (g := gb308) (o := .cells #[.string t300, .int .i64 t301, .int .i64 t302, .int .i64 t303, .int .i64 t304, .int .i64 t305, .bool t306] 26 (0, 0)) (q1466_ BK308.out)) : gb308 ≠ gb391)); have n9_ := Aside0.mk ((by rw [hg]; exact Nat.ne_of_gt (blk_lt (g := gb308) (o := .cells #[.string t300, .int .i64 t301, .int .i64 t302, .int .i64 t303, .int .i64 t304, .int .i64 t305, .bool t306] 26 (0, 0)) (q1466_ BK308.out)) : gb391 ≠ gb308)); have n10_ := Aside0.mk ((by rw [hg]; exact Nat.ne_of_lt (blk_lt (g := gb324) (o := .cells #[.string t316, .int .i64 t317, .int .i64 t318, .int .i64 t319, .int .i64 t320, .int .i64 t321, .bool t322] 26 (0, 0)) (q1466_ BK324.out)) : gb324 ≠ gb391)); have n11_ := Aside0.mk ((by rw [hg]; exact Nat.ne_of_gt (blk_lt (g := gb324) (o := .cells #[.string t316, .int .i64 t317, .int .i64 t318, .int .i64 t319, .int .i64 t320, .int .i64 t321, .bool t322] 26 (0, 0)) (q1466_ BK324.out)) : gb391 ≠ gb324)); have n12_ := Aside0.mk ((by rw [hg]; exact Nat.ne_of_lt (blk_lt (g := gb337) (o := .cells #[.string t329, .int .i64 t330, .int .i64 t331, .int .i64 t332, .int .i64 t333, .int .i64 t334, .bool t335] 26 (0, 0)) (q1466_ BK337.out)) : gb337 ≠ gb391)); have n13_ := Aside0.mk ((by rw [hg]; exact Nat.ne_of_gt (blk_lt (g := gb337) (o := .cells #[.string t329, .int .i64 t330, .int .i64 t331, .int .i64 t332, .int .i64 t333, .int .i64 t334, .bool t335] 26 (0, 0)) (q1466_ BK337.out)) : gb391 ≠ gb337)); clear HO_8; clear BK308; clear BK324; clear BK337; clear HB; have HO_8 := n0_; have BK308 := n1_; have BK324 := n2_; have BK337 := n3_; have HB := n4_; have BK391 := n5_; have GW391 := n6_; have GE391 := n7_; have NB308_391 := n8_; have NB391_308 := n9_; have NB324_391 := n10_; have NB391_324 := n11_; have NB337_391 := n12_; have NB391_337 := n13_; clear n0_ n1_ n2_ n3_ n4_ n5_ n6_ n7_ n8_ n9_ n10_ n11_ n12_ n13_; clear hb hbox hg; have hnb129 := NB391_308.out; have hnc129 := NB308_391.out; have hnb130 := NB391_324.out; have hnc130 := NB324_391.out; have hnb131 := NB391_337.out; have hnc131 := NB337_391.out; have hcz132_0 : w128.cell? ⟨gb391, 0, none⟩ = some (.string (⟨#[]⟩ : ByteArray)) := (blk_cell BK391.out 0).trans rfl; have hcz132_1 : w128.cell? ⟨gb391, 1, none⟩ = some (.int .i64 0) := (blk_cell BK391.out 1).trans rfl; have hcz132_2 : w128.cell? ⟨gb391, 2, none⟩ = some (.int .i64 0) := (blk_cell BK391.out 2).trans rfl; have hcz132_3 : w128.cell? ⟨gb391, 3, none⟩ = some (.int .i64 0) := (blk_cell BK391.out 3).trans rfl; have hcz132_4 : w128.cell? ⟨gb391, 4, none⟩ = some (.int .i64 0) := (blk_cell BK391.out 4).trans rfl; have hcz132_5 : w128.cell? ⟨gb391, 5, none⟩ = some (.int .i64 0) := (blk_cell BK391.out 5).trans rfl; have hcz132_6 : w128.cell? ⟨gb391, 6, none⟩ = some (.bool false) := (blk_cell BK391.out 6).trans rfl; have hfz132_0 := blk_frozen BK391.out 0; have hfz132_1 := blk_frozen BK391.out 1; have hfz132_2 := blk_frozen BK391.out 2; have hfz132_3 := blk_frozen BK391.out 3; have hfz132_4 := blk_frozen BK391.out 4; have hfz132_5 := blk_frozen BK391.out 5; have hfz132_6 := blk_frozen BK391.out 6) | (go_at_call 8; (with_reducible refine (caravanlaw4_awake.calls  t392 _ A125.out).mono ?_); rintro e w133 ⟨rfl, hb⟩; have n0_ := Aside0.mk (Kd.R_below (by (with_reducible repeat (first | apply Kd.R_alloc | apply Kd.R_drewN | apply Kd.R_drew)); exact (Kd.R_mono (Kd.R_far (p := ⟨gb391, 6, none⟩) (Kd.R_far (p := ⟨gb391, 5, none⟩) (Kd.R_far (p := ⟨gb391, 4, none⟩) (Kd.R_far (p := ⟨gb391, 3, none⟩) (Kd.R_far (p := ⟨gb391, 2, none⟩) (Kd.R_far (p := ⟨gb391, 1, none⟩) (Kd.R_far (p := ⟨gb391, 0, none⟩) (Kd.R_types HO_8.out BK391.out (by decide)) (fun _ hk => hk.2) (.string t383)) (fun _ hk => hk.2) (.int .i64 t384)) (fun _ hk => hk.2) (.int .i64 t385)) (fun _ hk => hk.2) (.int .i64 t386)) (fun _ hk => hk.2) (.int .i64 t387)) (fun _ hk => hk.2) (.int .i64 t388)) (fun _ hk => hk.2) (.bool t389)) (fun _ h_ => h_.1))) hb); have n1_ := Aside0.mk (blk_below (g := gb308) (o := .cells #[.string t300, .int .i64 t301, .int .i64 t302, .int .i64 t303, .int .i64 t304, .int .i64 t305, .bool t306] 26 (0, 0)) (q34cc_ NB308_391.out BK308.out) hb); have n2_ := Aside0.mk (blk_below (g := gb324) (o := .cells #[.string t316, .int .i64 t317, .int .i64 t318, .int .i64 t319, .int .i64 t320, .int .i64 t321, .bool t322] 26 (0, 0)) (q34cc_ NB324_391.out BK324.out) hb); have n3_ := Aside0.mk (blk_below (g := gb337) (o := .cells #[.string t329, .int .i64 t330, .int .i64 t331, .int .i64 t332, .int .i64 t333, .int .i64 t334, .bool t335] 26 (0, 0)) (q34cc_ NB337_391.out BK337.out) hb); have n4_ := Aside0.mk (blk_below (g := gb391) (o := .cells #[.string t383, .int .i64 t384, .int .i64 t385, .int .i64 t386, .int .i64 t387, .int .i64 t388, .bool t389] 26 (0, 0)) (by (with_reducible repeat (first | refine blk_drewN ?_ _ | refine blk_drew ?_ | refine blk_alloc ?_ _)); refine blk_put (cs := #[.string t383, .int .i64 t384, .int .i64 t385, .int .i64 t386, .int .i64 t387, .int .i64 t388, .bool false]) ?_ 6 _ rfl; (with_reducible repeat (first | refine blk_drewN ?_ _ | refine blk_drew ?_ | refine blk_alloc ?_ _)); refine blk_put (cs := #[.string t383, .int .i64 t384, .int .i64 t385, .int .i64 t386, .int .i64 t387, .int .i64 0, .bool false]) ?_ 5 _ rfl; (with_reducible repeat (first | refine blk_drewN ?_ _ | refine blk_drew ?_ | refine blk_alloc ?_ _)); refine blk_put (cs := #[.string t383, .int .i64 t384, .int .i64 t385, .int .i64 t386, .int .i64 0, .int .i64 0, .bool false]) ?_ 4 _ rfl; (with_reducible repeat (first | refine blk_drewN ?_ _ | refine blk_drew ?_ | refine blk_alloc ?_ _)); refine blk_put (cs := #[.string t383, .int .i64 t384, .int .i64 t385, .int .i64 0, .int .i64 0, .int .i64 0, .bool false]) ?_ 3 _ rfl; (with_reducible repeat (first | refine blk_drewN ?_ _ | refine blk_drew ?_ | refine blk_alloc ?_ _)); refine blk_put (cs := #[.string t383, .int .i64 t384, .int .i64 0, .int .i64 0, .int .i64 0, .int .i64 0, .bool false]) ?_ 2 _ rfl; (with_reducible repeat (first | refine blk_drewN ?_ _ | refine blk_drew ?_ | refine blk_alloc ?_ _)); refine blk_put (cs := #[.string t383, .int .i64 0, .int .i64 0, .int .i64 0, .int .i64 0, .int .i64 0, .bool false]) ?_ 1 _ rfl; (with_reducible repeat (first | refine blk_drewN ?_ _ | refine blk_drew ?_ | refine blk_alloc ?_ _)); refine blk_put (cs := #[.string (⟨#[]⟩ : ByteArray), .int .i64 0, .int .i64 0, .int .i64 0, .int .i64 0, .int .i64 0, .bool false]) ?_ 0 _ rfl; (with_reducible repeat (first | refine blk_drewN ?_ _ | refine blk_drew ?_ | refine blk_alloc ?_ _)); exact BK391.out) hb); have n5_ := Aside0.mk (below_step (qb40c_ HB.out GE308.out GE324.out GE337.out GE391.out) hb); clear HO_8; clear BK308; clear BK324; clear BK337; clear BK391; clear HB; have HO_8 := n0_; have BK308 := n1_; have BK324 := n2_; have BK337 := n3_; have BK391 := n4_; have HB := n5_; clear n0_ n1_ n2_ n3_ n4_ n5_; (try clear hb); (try clear hb2); (try clear hk); (try clear hi)))
                      go_ret
                      exact ⟨by first | rfl | (simp [errW_none, errW_some] <;> rfl) | (simp only [← hji5, ← hji32]; first | rfl | (simp [errW_none, errW_some] <;> rfl)) | (simp [*, errW_none, errW_some] <;> rfl), (qb40c_ HB.out GE308.out GE324.out GE337.out GE391.out)⟩
                     ·replace c124 := Bool.eq_false_iff.mpr c124
                      subst c124
                      have H1 : (some false) = some r := by rw [if_neg (show ¬ (false = true) by decide)] at H; exact H
                      clear H
                      have H := H1
                      clear H1
                      subst hrt_; exact absurd H (by simp)
           ·rw [if_neg c34] at H
            exact absurd H (by simp)
          ·rw [if_neg c33] at H
           exact absurd H (by simp)
   ·rw [if_neg c7] at H
    exact absurd H (by simp)
  ·rw [if_neg c6] at H
   exact absurd H (by simp)

/-- THE ONE PURE STATEMENT of caravanlaw4_CmdKeys: yours. -/
def caravanlaw4_CmdKeys.Pure : Prop := ∀ (a0 : Int) (a1 : Int), (Lit.int .u8 a0).wf = true → (Lit.int .u8 a1).wf = true → ∃ k, caravanlaw4_CmdKeys.f k a0 a1 = some true
theorem caravanlaw4_CmdKeys.walk (P : caravanlaw4_CmdKeys.Pure) (a0 : Int) (a1 : Int) (w : World) (w0 : (Lit.int .u8 a0).wf = true) (w1 : (Lit.int .u8 a1).wf = true) :
 Calls Try.prog 6 #[.int .u8 a0, .int .u8 a1] w fun e w' => e = .returned (.bool true) ∧ Below w.heap.size w w' := by
 obtain ⟨k, h⟩ := P a0 a1 w0 w1
 refine (caravanlaw4_CmdKeys.calls k a0 a1 true w h rfl).mono ?_
 rintro e w' ⟨rfl, hd⟩
 exact ⟨rfl, hd⟩

end Go.Proofs.Ytjdpmjpfhcdcfaa.G
