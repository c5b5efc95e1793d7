/- What functions of the translation come to, and their calls' proofs; by a program of mine over the kit's print, with contracts given by hand beside. Conditions: where a plain function tells none, nothing is said. -/
import Derived.Test.YtbmimcpllpgcaaaG0
import Derived.Test.YtbmimcpllpgcaaaG2
import Derived.Test.YtbmimcpllpgcaaaG3
import Derived.Test.YtbmimcpllpgcaaaG5
import Derived.Test.YtbmimcpllpgcaaaG6
import Derived.Test.YtbmimcpllpgcaaaG9
import Derived.Test.YtbmimcpllpgcaaaGMay
namespace Go.Proofs.Ytbmimcpllpgcaaa.G
open Go.RowKit Go.Proofs.YtbmimcpllpgcaaaW.PrintWords Go.Proofs.YtbmimcpllpgcaaaW.PrintLast Go.Proofs.YtbmimcpllpgcaaaW.PrintMore
attribute [local go_sem] max2_int min2_int max_two min_two max_three min_three max_four min_four   -- for this text's walks alone
set_option linter.unusedVariables false
set_option linter.unusedSimpArgs false

/-! ### caravanlaw5_ItemMade: function 6 -/
mutual
def caravanlaw5_ItemMade.j0 : Nat → List Int → Int → Bool → Int → ByteArray → List (S29) → List ByteArray → Int → Int → ByteArray → List (S29) → List ByteArray → Int → Option (Bool)
 | 0, _, _, _, _, _, _, _, _, _, _, _, _, _ => none
 | k + 1, x0, x2, x57, x321000, x321001, x321002, x321003, x321004, x332000, x332001, x332002, x332003, x332004 => if x57 = true then (some false) else (caravanlaw5_ItemMade.l0 k x0 x2 0 x321000 x321001 x321002 x321003 x321004 x332000 x332001 x332002 x332003 x332004)
def caravanlaw5_ItemMade.l0 : Nat → List Int → Int → Int → Int → ByteArray → List (S29) → List ByteArray → Int → Int → ByteArray → List (S29) → List ByteArray → Int → Option (Bool)
 | 0, _, _, _, _, _, _, _, _, _, _, _, _, _ => none
 | k + 1, x0, x2, x12, x321000, x321001, x321002, x321003, x321004, x332000, x332001, x332002, x332003, x332004 => if x12 < (x332003.length : Int) then (if 0 ≤ x12 then (caravanlaw5_ItemMade.l0 k x0 x2 (wrap64 (x12 + 1)) x321000 x321001 x321002 x321003 x321004 x332000 x332001 x332002 (x332003.set (x12 : Int).toNat (⟨#[116, 117, 114, 110, 101, 100]⟩ : ByteArray)) x332004) else (none)) else (caravanlaw5_ItemMade.l1 k x0 x2 0 x321000 x321001 x321002 x321003 x321004 x332000 x332001 x332002 x332003 x332004)
def caravanlaw5_ItemMade.l1 : Nat → List Int → Int → Int → Int → ByteArray → List (S29) → List ByteArray → Int → Int → ByteArray → List (S29) → List ByteArray → Int → Option (Bool)
 | 0, _, _, _, _, _, _, _, _, _, _, _, _, _ => none
 | k + 1, x0, x2, x13, x321000, x321001, x321002, x321003, x321004, x332000, x332001, x332002, x332003, x332004 => if x13 < (x332002.length : Int) then (if 0 ≤ x13 then (caravanlaw5_ItemMade.l1 k x0 x2 (wrap64 (x13 + 1)) x321000 x321001 x321002 x321003 x321004 x332000 x332001 (x332002.set (x13 : Int).toNat (⟨(rd_T29 x332002 x13).f0, (⟨#[116, 117, 114, 110, 101, 100]⟩ : ByteArray)⟩ : S29)) x332003 x332004) else (none)) else ((caravanlaw5_Make.f k x0 x2).bind fun bt342 => ((caravanref5_SameItem.f k x321000 x321001 x321002 x321003 x321004 bt342.1 bt342.2.1 bt342.2.2.1 bt342.2.2.2.1 bt342.2.2.2.2).bind fun t351 => (if t351 = true then ((caravanlaw5_awake.f k).bind fun t352 => (some t352)) else (some false))))
end
def caravanlaw5_ItemMade.f (k : Nat) (l0 : List Int) (l1 : List Int) (a2 : Int) (a3 : Int) : Option (Bool) := (caravanlaw5_Make.f k l0 a2).bind fun bt302 => ((caravanlaw5_Make.f k l1 a2).bind fun bt311 => ((item_Copy.f bt302.1 bt302.2.1 bt302.2.2.1 bt302.2.2.2.1 bt302.2.2.2.2).bind fun bt322 => ((item_May.f bt302.1 bt302.2.1 bt302.2.2.1 bt302.2.2.2.1 bt302.2.2.2.2).bind fun t332 => (if t332 = true then ((item_Same.f k bt302.1 bt302.2.1 bt302.2.2.1 bt302.2.2.2.1 bt302.2.2.2.2 bt311.1 bt311.2.1 bt311.2.2.1 bt311.2.2.2.1 bt311.2.2.2.2).bind fun t333 => ((caravanref5_SameItem.f k bt302.1 bt302.2.1 bt302.2.2.1 bt302.2.2.2.1 bt302.2.2.2.2 bt311.1 bt311.2.1 bt311.2.2.1 bt311.2.2.2.1 bt311.2.2.2.2).bind fun t334 => (if (t333 != t334) = true then (caravanlaw5_ItemMade.j0 k l0 a2 true bt302.1 bt302.2.1 bt302.2.2.1 bt302.2.2.2.1 bt302.2.2.2.2 bt322.1 bt322.2.1 bt322.2.2.1 bt322.2.2.2.1 bt322.2.2.2.2) else ((item_Type.f bt302.1 bt302.2.1 bt302.2.2.1 bt302.2.2.2.1 bt302.2.2.2.2).bind fun t335 => ((caravanref5_Type.f bt302.1 bt302.2.1 bt302.2.2.1 bt302.2.2.2.1 bt302.2.2.2.2).bind fun t336 => (if t335.toList = t336.toList then ((item_Alive.f bt302.1 bt302.2.1 bt302.2.2.1 bt302.2.2.2.1 bt302.2.2.2.2 (wrap64 (a3))).bind fun t337 => ((caravanref5_Alive.f bt302.1 bt302.2.1 bt302.2.2.1 bt302.2.2.2.1 bt302.2.2.2.2 (wrap64 (a3))).bind fun t338 => (if (t337 != t338) = true then (caravanlaw5_ItemMade.j0 k l0 a2 true bt302.1 bt302.2.1 bt302.2.2.1 bt302.2.2.2.1 bt302.2.2.2.2 bt322.1 bt322.2.1 bt322.2.2.1 bt322.2.2.2.1 bt322.2.2.2.2) else ((caravanref5_SameItem.f k bt322.1 bt322.2.1 bt322.2.2.1 bt322.2.2.2.1 bt322.2.2.2.2 bt302.1 bt302.2.1 bt302.2.2.1 bt302.2.2.2.1 bt302.2.2.2.2).bind fun t339 => (caravanlaw5_ItemMade.j0 k l0 a2 (!t339) bt302.1 bt302.2.1 bt302.2.2.1 bt302.2.2.2.1 bt302.2.2.2.2 bt322.1 bt322.2.1 bt322.2.2.1 bt322.2.2.2.1 bt322.2.2.2.2))))) else (caravanlaw5_ItemMade.j0 k l0 a2 true bt302.1 bt302.2.1 bt302.2.2.1 bt302.2.2.2.1 bt302.2.2.2.2 bt322.1 bt322.2.1 bt322.2.2.1 bt322.2.2.2.1 bt322.2.2.2.2))))))) else (caravanlaw5_ItemMade.j0 k l0 a2 true bt302.1 bt302.2.1 bt302.2.2.1 bt302.2.2.2.1 bt302.2.2.2.2 bt322.1 bt322.2.1 bt322.2.2.1 bt322.2.2.2.1 bt322.2.2.2.2)))))
theorem caravanlaw5_ItemMade.mono_l : ∀ k, (∀ y0 y1 y2 y3 y4 y5 y6 y7 y8 y9 y10 y11 y12, LeO (caravanlaw5_ItemMade.j0 k y0 y1 y2 y3 y4 y5 y6 y7 y8 y9 y10 y11 y12) (caravanlaw5_ItemMade.j0 (k + 1) y0 y1 y2 y3 y4 y5 y6 y7 y8 y9 y10 y11 y12)) ∧ (∀ y0 y1 y2 y3 y4 y5 y6 y7 y8 y9 y10 y11 y12, LeO (caravanlaw5_ItemMade.l0 k y0 y1 y2 y3 y4 y5 y6 y7 y8 y9 y10 y11 y12) (caravanlaw5_ItemMade.l0 (k + 1) y0 y1 y2 y3 y4 y5 y6 y7 y8 y9 y10 y11 y12)) ∧ (∀ y0 y1 y2 y3 y4 y5 y6 y7 y8 y9 y10 y11 y12, LeO (caravanlaw5_ItemMade.l1 k y0 y1 y2 y3 y4 y5 y6 y7 y8 y9 y10 y11 y12) (caravanlaw5_ItemMade.l1 (k + 1) y0 y1 y2 y3 y4 y5 y6 y7 y8 y9 y10 y11 y12))
 | 0 => ⟨fun _ _ _ _ _ _ _ _ _ _ _ _ _ r h => by simp [caravanlaw5_ItemMade.j0] at h, fun _ _ _ _ _ _ _ _ _ _ _ _ _ r h => by simp [caravanlaw5_ItemMade.l0] at h, fun _ _ _ _ _ _ _ _ _ _ _ _ _ r h => by simp [caravanlaw5_ItemMade.l1] at h⟩
 | k + 1 => by
  obtain ⟨ih0, ih1, ih2⟩ := caravanlaw5_ItemMade.mono_l k
  refine ⟨?_, ?_, ?_⟩
  ·intro y0 y1 y2 y3 y4 y5 y6 y7 y8 y9 y10 y11 y12
   unfold caravanlaw5_ItemMade.j0
   repeat' first
   | (with_reducible exact ih0 _ _ _ _ _ _ _ _ _ _ _ _ _)
   | (with_reducible exact ih1 _ _ _ _ _ _ _ _ _ _ _ _ _)
   | (with_reducible exact ih2 _ _ _ _ _ _ _ _ _ _ _ _ _)
   | (with_reducible exact caravanlaw5_Make.mono _ _ _)
   | (with_reducible exact caravanlaw5_awake.mono _)
   | (with_reducible exact caravanref5_SameItem.mono _ _ _ _ _ _ _ _ _ _ _)
   | (with_reducible exact item_Same.mono _ _ _ _ _ _ _ _ _ _ _)
   | (with_reducible exact LeO.refl _)
   | (with_reducible exact LeO.none _)
   | (with_reducible refine LeO.ite ?_ ?_)
   | (with_reducible refine LeO.bind ?_ (fun _ => ?_))
   | exact ih0 _ _ _ _ _ _ _ _ _ _ _ _ _
   | exact ih1 _ _ _ _ _ _ _ _ _ _ _ _ _
   | exact ih2 _ _ _ _ _ _ _ _ _ _ _ _ _
   | exact caravanlaw5_Make.mono _ _ _
   | exact caravanlaw5_awake.mono _
   | exact caravanref5_SameItem.mono _ _ _ _ _ _ _ _ _ _ _
   | exact item_Same.mono _ _ _ _ _ _ _ _ _ _ _
   | exact LeO.none _
   | refine LeO.ite ?_ ?_
   | refine LeO.bind ?_ (fun _ => ?_)
  ·intro y0 y1 y2 y3 y4 y5 y6 y7 y8 y9 y10 y11 y12
   unfold caravanlaw5_ItemMade.l0
   repeat' first
   | (with_reducible exact ih0 _ _ _ _ _ _ _ _ _ _ _ _ _)
   | (with_reducible exact ih1 _ _ _ _ _ _ _ _ _ _ _ _ _)
   | (with_reducible exact ih2 _ _ _ _ _ _ _ _ _ _ _ _ _)
   | (with_reducible exact caravanlaw5_Make.mono _ _ _)
   | (with_reducible exact caravanlaw5_awake.mono _)
   | (with_reducible exact caravanref5_SameItem.mono _ _ _ _ _ _ _ _ _ _ _)
   | (with_reducible exact item_Same.mono _ _ _ _ _ _ _ _ _ _ _)
   | (with_reducible exact LeO.refl _)
   | (with_reducible exact LeO.none _)
   | (with_reducible refine LeO.ite ?_ ?_)
   | (with_reducible refine LeO.bind ?_ (fun _ => ?_))
   | exact ih0 _ _ _ _ _ _ _ _ _ _ _ _ _
   | exact ih1 _ _ _ _ _ _ _ _ _ _ _ _ _
   | exact ih2 _ _ _ _ _ _ _ _ _ _ _ _ _
   | exact caravanlaw5_Make.mono _ _ _
   | exact caravanlaw5_awake.mono _
   | exact caravanref5_SameItem.mono _ _ _ _ _ _ _ _ _ _ _
   | exact item_Same.mono _ _ _ _ _ _ _ _ _ _ _
   | exact LeO.none _
   | refine LeO.ite ?_ ?_
   | refine LeO.bind ?_ (fun _ => ?_)
  ·intro y0 y1 y2 y3 y4 y5 y6 y7 y8 y9 y10 y11 y12
   unfold caravanlaw5_ItemMade.l1
   repeat' first
   | (with_reducible exact ih0 _ _ _ _ _ _ _ _ _ _ _ _ _)
   | (with_reducible exact ih1 _ _ _ _ _ _ _ _ _ _ _ _ _)
   | (with_reducible exact ih2 _ _ _ _ _ _ _ _ _ _ _ _ _)
   | (with_reducible exact caravanlaw5_Make.mono _ _ _)
   | (with_reducible exact caravanlaw5_awake.mono _)
   | (with_reducible exact caravanref5_SameItem.mono _ _ _ _ _ _ _ _ _ _ _)
   | (with_reducible exact item_Same.mono _ _ _ _ _ _ _ _ _ _ _)
   | (with_reducible exact LeO.refl _)
   | (with_reducible exact LeO.none _)
   | (with_reducible refine LeO.ite ?_ ?_)
   | (with_reducible refine LeO.bind ?_ (fun _ => ?_))
   | exact ih0 _ _ _ _ _ _ _ _ _ _ _ _ _
   | exact ih1 _ _ _ _ _ _ _ _ _ _ _ _ _
   | exact ih2 _ _ _ _ _ _ _ _ _ _ _ _ _
   | exact caravanlaw5_Make.mono _ _ _
   | exact caravanlaw5_awake.mono _
   | exact caravanref5_SameItem.mono _ _ _ _ _ _ _ _ _ _ _
   | exact item_Same.mono _ _ _ _ _ _ _ _ _ _ _
   | exact LeO.none _
   | refine LeO.ite ?_ ?_
   | refine LeO.bind ?_ (fun _ => ?_)
theorem caravanlaw5_ItemMade.mono : ∀ a0 a1 a2 a3 k, LeO (caravanlaw5_ItemMade.f k a0 a1 a2 a3) (caravanlaw5_ItemMade.f (k + 1) a0 a1 a2 a3) := by
 intro a0 a1 a2 a3 k
 obtain ⟨ih0, ih1, ih2⟩ := caravanlaw5_ItemMade.mono_l k
 unfold caravanlaw5_ItemMade.f
 repeat' first
  | (with_reducible exact ih0 _ _ _ _ _ _ _ _ _ _ _ _ _)
  | (with_reducible exact ih1 _ _ _ _ _ _ _ _ _ _ _ _ _)
  | (with_reducible exact ih2 _ _ _ _ _ _ _ _ _ _ _ _ _)
  | (with_reducible exact caravanlaw5_Make.mono _ _ _)
  | (with_reducible exact caravanlaw5_awake.mono _)
  | (with_reducible exact caravanref5_SameItem.mono _ _ _ _ _ _ _ _ _ _ _)
  | (with_reducible exact item_Same.mono _ _ _ _ _ _ _ _ _ _ _)
  | (with_reducible exact LeO.refl _)
  | (with_reducible exact LeO.none _)
  | (with_reducible refine LeO.ite ?_ ?_)
  | (with_reducible refine LeO.bind ?_ (fun _ => ?_))
  | exact ih0 _ _ _ _ _ _ _ _ _ _ _ _ _
  | exact ih1 _ _ _ _ _ _ _ _ _ _ _ _ _
  | exact ih2 _ _ _ _ _ _ _ _ _ _ _ _ _
  | exact caravanlaw5_Make.mono _ _ _
  | exact caravanlaw5_awake.mono _
  | exact caravanref5_SameItem.mono _ _ _ _ _ _ _ _ _ _ _
  | exact item_Same.mono _ _ _ _ _ _ _ _ _ _ _
  | exact LeO.none _
  | refine LeO.ite ?_ ?_
  | refine LeO.bind ?_ (fun _ => ?_)
def caravanlaw5_ItemMade.T3 : Bool × List (List Nat × List Nat) := (true, [([], []), ([0], [0]), ([1], [1]), ([2, 1], [2]), ([3], [3]), ([3], [3]), ([4, 5, 3, 3], [3, 4, 5]), ([3], [3]), ([3], [3]), ([7, 8, 6, 3], [3, 7, 8]), ([6, 9, 3], [3, 6, 9]), ([3, 10], [3, 10]), ([11, 9], [11]), ([12], [12]), ([13, 12, 12], [12, 13]), ([12], [12]), ([15, 14, 12], [12, 15]), ([14, 16, 12], [12, 14, 16]), ([12, 17], [12, 17]), ([18, 16], [18]), ([19], [19]), ([19], [19]), ([21, 19], [19, 21]), ([20, 22, 19, 19], [19, 20, 22]), ([19], [19]), ([19], [19]), ([25, 19], [19, 25]), ([24, 26, 23, 19], [19, 24, 26]), ([23, 27, 19], [19, 23, 27]), ([19, 28], [19, 28]), ([29, 27], [29]), ([30], [30]), ([30], [30]), ([31, 32, 30, 30], [30, 31, 32]), ([33, 30], [30, 33]), ([30, 34], [30, 34])])
def caravanlaw5_ItemMade.B3 : List Nat := [0, 1, 3, 7, 15, 15, 63, 15, 15, 511, 1023, 2047, 4095, 8191, 16383, 8191, 65535, 131071, 262143, 524287, 1048575, 1048575, 3145727, 8388607, 1048575, 1048575, 34603007, 134217727, 268435455, 536870911, 1073741823, 2147483647, 2147483647, 8589934591, 17179869183, 34359738367]
theorem caravanlaw5_ItemMade.tab3 : rtab .any (opsOf Try.f6 3) = caravanlaw5_ItemMade.T3 := by kernel_rfl
theorem caravanlaw5_ItemMade.bits3 : waitsOk caravanlaw5_ItemMade.T3.2 caravanlaw5_ItemMade.B3 = true := by kernel_rfl
def caravanlaw5_ItemMade.T13 : Bool × List (List Nat × List Nat) := (true, [([], []), ([], []), ([], []), ([1, 2], [1, 2]), ([0, 3, 3], [0, 3]), ([4, 4], [4]), ([5, 5], [5]), ([5, 6], [5, 6]), ([7, 6, 0, 1, 2, 3, 4, 5, 6, 7], [7])])
def caravanlaw5_ItemMade.B13 : List Nat := [0, 0, 0, 6, 15, 31, 63, 127, 255]
theorem caravanlaw5_ItemMade.tab13 : rtab .any (opsOf Try.f6 13) = caravanlaw5_ItemMade.T13 := by kernel_rfl
theorem caravanlaw5_ItemMade.bits13 : waitsOk caravanlaw5_ItemMade.T13.2 caravanlaw5_ItemMade.B13 = true := by kernel_rfl
set_option maxHeartbeats 8000000 in
set_option maxRecDepth 100000 in
theorem caravanlaw5_ItemMade.calls (k : Nat) (A0 : Option Addr) (c0 : Nat) (l0 : List Int) (A1 : Option Addr) (c1 : Nat) (l1 : List Int) (a2 : Int) (a3 : Int) (r : Bool) (w : World) (hr0 : Kd.C (Kd.int .u8) w A0 l0.length l0) (hc0 : l0.length ≤ c0) (hr1 : Kd.C (Kd.int .u8) w A1 l1.length l1) (hc1 : l1.length ≤ c1) (h : caravanlaw5_ItemMade.f k l0 l1 a2 a3 = some r) :
 Calls Try.prog 6 #[.slice A0 l0.length c0, .slice A1 l1.length c1, .int .u8 a2, .int .i16 a3] w fun e w' => e = .returned (.bool r) ∧ Below w.heap.size w w' := by
 have hu26 := Try.underlying26
 have HR0 := Aside0.mk hr0
 have HC0 := Aside0.mk hc0
 clear hr0 hc0
 have HR1 := Aside0.mk hr1
 have HC1 := Aside0.mk hc1
 clear hr1 hc1
 have HB := Aside0.mk (Below.refl w.heap.size w)
 have H : ((caravanlaw5_Make.f k l0 a2).bind fun bt302 => ((caravanlaw5_Make.f k l1 a2).bind fun bt311 => ((item_Copy.f bt302.1 bt302.2.1 bt302.2.2.1 bt302.2.2.2.1 bt302.2.2.2.2).bind fun bt322 => ((item_May.f bt302.1 bt302.2.1 bt302.2.2.1 bt302.2.2.2.1 bt302.2.2.2.2).bind fun t332 => (if t332 = true then ((item_Same.f k bt302.1 bt302.2.1 bt302.2.2.1 bt302.2.2.2.1 bt302.2.2.2.2 bt311.1 bt311.2.1 bt311.2.2.1 bt311.2.2.2.1 bt311.2.2.2.2).bind fun t333 => ((caravanref5_SameItem.f k bt302.1 bt302.2.1 bt302.2.2.1 bt302.2.2.2.1 bt302.2.2.2.2 bt311.1 bt311.2.1 bt311.2.2.1 bt311.2.2.2.1 bt311.2.2.2.2).bind fun t334 => (if (t333 != t334) = true then (caravanlaw5_ItemMade.j0 k l0 a2 true bt302.1 bt302.2.1 bt302.2.2.1 bt302.2.2.2.1 bt302.2.2.2.2 bt322.1 bt322.2.1 bt322.2.2.1 bt322.2.2.2.1 bt322.2.2.2.2) else ((item_Type.f bt302.1 bt302.2.1 bt302.2.2.1 bt302.2.2.2.1 bt302.2.2.2.2).bind fun t335 => ((caravanref5_Type.f bt302.1 bt302.2.1 bt302.2.2.1 bt302.2.2.2.1 bt302.2.2.2.2).bind fun t336 => (if t335.toList = t336.toList then ((item_Alive.f bt302.1 bt302.2.1 bt302.2.2.1 bt302.2.2.2.1 bt302.2.2.2.2 (wrap64 (a3))).bind fun t337 => ((caravanref5_Alive.f bt302.1 bt302.2.1 bt302.2.2.1 bt302.2.2.2.1 bt302.2.2.2.2 (wrap64 (a3))).bind fun t338 => (if (t337 != t338) = true then (caravanlaw5_ItemMade.j0 k l0 a2 true bt302.1 bt302.2.1 bt302.2.2.1 bt302.2.2.2.1 bt302.2.2.2.2 bt322.1 bt322.2.1 bt322.2.2.1 bt322.2.2.2.1 bt322.2.2.2.2) else ((caravanref5_SameItem.f k bt322.1 bt322.2.1 bt322.2.2.1 bt322.2.2.2.1 bt322.2.2.2.2 bt302.1 bt302.2.1 bt302.2.2.1 bt302.2.2.2.1 bt302.2.2.2.2).bind fun t339 => (caravanlaw5_ItemMade.j0 k l0 a2 (!t339) bt302.1 bt302.2.1 bt302.2.2.1 bt302.2.2.2.1 bt302.2.2.2.2 bt322.1 bt322.2.1 bt322.2.2.1 bt322.2.2.2.1 bt322.2.2.2.2))))) else (caravanlaw5_ItemMade.j0 k l0 a2 true bt302.1 bt302.2.1 bt302.2.2.1 bt302.2.2.2.1 bt302.2.2.2.2 bt322.1 bt322.2.1 bt322.2.2.1 bt322.2.2.2.1 bt322.2.2.2.2))))))) else (caravanlaw5_ItemMade.j0 k l0 a2 true bt302.1 bt302.2.1 bt302.2.2.1 bt302.2.2.2.1 bt302.2.2.2.2 bt322.1 bt322.2.1 bt322.2.2.1 bt322.2.2.2.1 bt322.2.2.2.2)))))) = some r := h
 clear h
 replace H := Option.bind_eq_some_iff.mp H
 obtain ⟨⟨t302, t303, t304, t307, t310⟩, A50, H⟩ := H
 replace H : ((caravanlaw5_Make.f k l1 a2).bind fun bt311 => ((item_Copy.f t302 t303 t304 t307 t310).bind fun bt322 => ((item_May.f t302 t303 t304 t307 t310).bind fun t332 => (if t332 = true then ((item_Same.f k t302 t303 t304 t307 t310 bt311.1 bt311.2.1 bt311.2.2.1 bt311.2.2.2.1 bt311.2.2.2.2).bind fun t333 => ((caravanref5_SameItem.f k t302 t303 t304 t307 t310 bt311.1 bt311.2.1 bt311.2.2.1 bt311.2.2.2.1 bt311.2.2.2.2).bind fun t334 => (if (t333 != t334) = true then (caravanlaw5_ItemMade.j0 k l0 a2 true t302 t303 t304 t307 t310 bt322.1 bt322.2.1 bt322.2.2.1 bt322.2.2.2.1 bt322.2.2.2.2) else ((item_Type.f t302 t303 t304 t307 t310).bind fun t335 => ((caravanref5_Type.f t302 t303 t304 t307 t310).bind fun t336 => (if t335.toList = t336.toList then ((item_Alive.f t302 t303 t304 t307 t310 (wrap64 (a3))).bind fun t337 => ((caravanref5_Alive.f t302 t303 t304 t307 t310 (wrap64 (a3))).bind fun t338 => (if (t337 != t338) = true then (caravanlaw5_ItemMade.j0 k l0 a2 true t302 t303 t304 t307 t310 bt322.1 bt322.2.1 bt322.2.2.1 bt322.2.2.2.1 bt322.2.2.2.2) else ((caravanref5_SameItem.f k bt322.1 bt322.2.1 bt322.2.2.1 bt322.2.2.2.1 bt322.2.2.2.2 t302 t303 t304 t307 t310).bind fun t339 => (caravanlaw5_ItemMade.j0 k l0 a2 (!t339) t302 t303 t304 t307 t310 bt322.1 bt322.2.1 bt322.2.2.1 bt322.2.2.2.1 bt322.2.2.2.2))))) else (caravanlaw5_ItemMade.j0 k l0 a2 true t302 t303 t304 t307 t310 bt322.1 bt322.2.1 bt322.2.2.1 bt322.2.2.2.1 bt322.2.2.2.2))))))) else (caravanlaw5_ItemMade.j0 k l0 a2 true t302 t303 t304 t307 t310 bt322.1 bt322.2.1 bt322.2.2.1 bt322.2.2.2.1 bt322.2.2.2.2))))) = some r := H
 have A5 := Aside0.mk A50
 clear A50
 replace H := Option.bind_eq_some_iff.mp H
 obtain ⟨⟨t311, t312, t313, t316, t319⟩, A60, H⟩ := H
 replace H : ((item_Copy.f t302 t303 t304 t307 t310).bind fun bt322 => ((item_May.f t302 t303 t304 t307 t310).bind fun t332 => (if t332 = true then ((item_Same.f k t302 t303 t304 t307 t310 t311 t312 t313 t316 t319).bind fun t333 => ((caravanref5_SameItem.f k t302 t303 t304 t307 t310 t311 t312 t313 t316 t319).bind fun t334 => (if (t333 != t334) = true then (caravanlaw5_ItemMade.j0 k l0 a2 true t302 t303 t304 t307 t310 bt322.1 bt322.2.1 bt322.2.2.1 bt322.2.2.2.1 bt322.2.2.2.2) else ((item_Type.f t302 t303 t304 t307 t310).bind fun t335 => ((caravanref5_Type.f t302 t303 t304 t307 t310).bind fun t336 => (if t335.toList = t336.toList then ((item_Alive.f t302 t303 t304 t307 t310 (wrap64 (a3))).bind fun t337 => ((caravanref5_Alive.f t302 t303 t304 t307 t310 (wrap64 (a3))).bind fun t338 => (if (t337 != t338) = true then (caravanlaw5_ItemMade.j0 k l0 a2 true t302 t303 t304 t307 t310 bt322.1 bt322.2.1 bt322.2.2.1 bt322.2.2.2.1 bt322.2.2.2.2) else ((caravanref5_SameItem.f k bt322.1 bt322.2.1 bt322.2.2.1 bt322.2.2.2.1 bt322.2.2.2.2 t302 t303 t304 t307 t310).bind fun t339 => (caravanlaw5_ItemMade.j0 k l0 a2 (!t339) t302 t303 t304 t307 t310 bt322.1 bt322.2.1 bt322.2.2.1 bt322.2.2.2.1 bt322.2.2.2.2))))) else (caravanlaw5_ItemMade.j0 k l0 a2 true t302 t303 t304 t307 t310 bt322.1 bt322.2.1 bt322.2.2.1 bt322.2.2.2.1 bt322.2.2.2.2))))))) else (caravanlaw5_ItemMade.j0 k l0 a2 true t302 t303 t304 t307 t310 bt322.1 bt322.2.1 bt322.2.2.1 bt322.2.2.2.1 bt322.2.2.2.2)))) = some r := H
 have A6 := Aside0.mk A60
 clear A60
 replace H := Option.bind_eq_some_iff.mp H
 obtain ⟨⟨t322, t323, t324, t327, t330⟩, A70, H⟩ := H
 replace H : ((item_May.f t302 t303 t304 t307 t310).bind fun t332 => (if t332 = true then ((item_Same.f k t302 t303 t304 t307 t310 t311 t312 t313 t316 t319).bind fun t333 => ((caravanref5_SameItem.f k t302 t303 t304 t307 t310 t311 t312 t313 t316 t319).bind fun t334 => (if (t333 != t334) = true then (caravanlaw5_ItemMade.j0 k l0 a2 true t302 t303 t304 t307 t310 t322 t323 t324 t327 t330) else ((item_Type.f t302 t303 t304 t307 t310).bind fun t335 => ((caravanref5_Type.f t302 t303 t304 t307 t310).bind fun t336 => (if t335.toList = t336.toList then ((item_Alive.f t302 t303 t304 t307 t310 (wrap64 (a3))).bind fun t337 => ((caravanref5_Alive.f t302 t303 t304 t307 t310 (wrap64 (a3))).bind fun t338 => (if (t337 != t338) = true then (caravanlaw5_ItemMade.j0 k l0 a2 true t302 t303 t304 t307 t310 t322 t323 t324 t327 t330) else ((caravanref5_SameItem.f k t322 t323 t324 t327 t330 t302 t303 t304 t307 t310).bind fun t339 => (caravanlaw5_ItemMade.j0 k l0 a2 (!t339) t302 t303 t304 t307 t310 t322 t323 t324 t327 t330))))) else (caravanlaw5_ItemMade.j0 k l0 a2 true t302 t303 t304 t307 t310 t322 t323 t324 t327 t330))))))) else (caravanlaw5_ItemMade.j0 k l0 a2 true t302 t303 t304 t307 t310 t322 t323 t324 t327 t330))) = some r := H
 have A7 := Aside0.mk A70
 clear A70
 have HC8 := Aside0.mk H
 clear H
 go_enter Try.func6, Try.ntmps6
 go_upto_region 3 with (first | ((with_reducible refine gate_callee (f := 20) rfl ?_); refine goesL_ (some 16) rfl rfl Try.func20 (by kernel_rfl) rfl #[.slice A0 l0.length c0, .int .u8 a2] rfl qM_ ?_; (with_reducible refine (caravanlaw5_Make.calls k _ _ l0 a2 t302 t303 t304 t307 t310 _ ?side1 ?side2 A5.out).mono ?_); (case side1 => exact qC_ (HR0.out)); (case side2 => exact HC0.out); rintro e w9 ⟨v305, v308, rfl, ho0, ho1, hb⟩; refine ⟨_, rfl, ?_⟩; have n0_ := Aside0.mk (Kd.R_lower ho0 (below_size (q2_ HB.out))); have n1_ := Aside0.mk (Kd.R_lower ho1 (below_size (q2_ HB.out))); have n2_ := Aside0.mk (below_step (q2_ HB.out) hb); clear HB; have HO306 := n0_; have HO309 := n1_; have HB := n2_; clear n0_ n1_ n2_; (try clear hb); (try clear hb2); (try clear hk); (try clear hi); (try clear ho0); (try clear ho1)) | ((with_reducible refine gate_callee (f := 20) rfl ?_); refine goesL_ (some 19) rfl rfl Try.func20 (by kernel_rfl) rfl #[.slice A1 l1.length c1, .int .u8 a2] rfl qM_ ?_; (with_reducible refine (caravanlaw5_Make.calls k _ _ l1 a2 t311 t312 t313 t316 t319 _ ?side1 ?side2 A6.out).mono ?_); (case side1 => exact qC_ ((Kd.C_below HR1.out HB.out))); (case side2 => exact HC1.out); rintro e w10 ⟨v314, v317, rfl, ho0, ho1, hb⟩; refine ⟨_, rfl, ?_⟩; have n0_ := Aside0.mk (Kd.R_elder' (q1_ HO306.out) (Kd.R_base ho0) hb); have n1_ := Aside0.mk (Kd.R_elder' (q1_ HO309.out) (Kd.R_base ho1) hb); have n2_ := Aside0.mk (Kd.R_lower (Kd.R_new' ho0 (Kd.R_lt (q1_ HO306.out))) (below_size (q2_ HB.out))); have n3_ := Aside0.mk (Kd.R_lower (Kd.R_new' ho1 (Kd.R_lt (q1_ HO309.out))) (below_size (q2_ HB.out))); have n4_ := Aside0.mk (below_step (q2_ HB.out) hb); clear HO306; clear HO309; clear HB; have HO306 := n0_; have HO309 := n1_; have HO315 := n2_; have HO318 := n3_; have HB := n4_; clear n0_ n1_ n2_ n3_ n4_; (try clear hb); (try clear hb2); (try clear hk); (try clear hi); (try clear ho0); (try clear ho1)) | ((with_reducible refine gate_dst (N := 9) rfl ?_); refine box_event ?hg (N := 9) ?hd (cs := #[.int .i64 0, .string (⟨#[]⟩ : ByteArray), .slice none 0 0, .slice none 0 0, .int .i64 0]) (t := 26) ?hr ?_; (case hd => rfl); (case hg => rfl); (case hr => first | (go_simp; done) | (go_simp; rfl)); intro gb320 hg w11 hbox hb; have n0_ := Aside0.mk (Kd.R_below (q1_ HO306.out) hb); have n1_ := Aside0.mk (Kd.R_below (q1_ HO309.out) hb); have n2_ := Aside0.mk (Kd.R_below (q1_ HO315.out) hb); have n3_ := Aside0.mk (Kd.R_below (q1_ HO318.out) hb); have n4_ := Aside0.mk (below_step (q2_ HB.out) hb); have n5_ := Aside0.mk (hbox); have n6_ := Aside0.mk ((by rw [hg]; exact (below_size (q2_ HB.out)) : w.heap.size ≤ gb320)); have n7_ := Aside0.mk ((by rw [hg]; exact (below_size (q2_ HB.out)) : w.heap.size ≤ gb320)); clear HO306; clear HO309; clear HO315; clear HO318; clear HB; have HO306 := n0_; have HO309 := n1_; have HO315 := n2_; have HO318 := n3_; have HB := n4_; have BK320 := n5_; have GW320 := n6_; have GE320 := n7_; clear n0_ n1_ n2_ n3_ n4_ n5_ n6_ n7_; clear hb hbox hg) | ((with_reducible refine gate_dst (N := 10) rfl ?_); refine box_event ?hg (N := 10) ?hd (cs := #[.int .i64 0, .string (⟨#[]⟩ : ByteArray), .slice none 0 0, .slice none 0 0, .int .i64 0]) (t := 26) ?hr ?_; (case hd => rfl); (case hg => rfl); (case hr => first | (go_simp; done) | (go_simp; rfl)); intro gb321 hg w12 hbox hb; have n0_ := Aside0.mk (Kd.R_below (q1_ HO306.out) hb); have n1_ := Aside0.mk (Kd.R_below (q1_ HO309.out) hb); have n2_ := Aside0.mk (Kd.R_below (q1_ HO315.out) hb); have n3_ := Aside0.mk (Kd.R_below (q1_ HO318.out) hb); have n4_ := Aside0.mk (blk_below (g := gb320) (o := .cells #[.int .i64 0, .string (⟨#[]⟩ : ByteArray), .slice none 0 0, .slice none 0 0, .int .i64 0] 26 (0, 0)) (q3_ BK320.out) hb); have n5_ := Aside0.mk (below_step (q4_ HB.out GE320.out) hb); have n6_ := Aside0.mk (hbox); have n7_ := Aside0.mk ((by rw [hg]; exact (below_size (q4_ HB.out GE320.out)) : w.heap.size ≤ gb321)); have n8_ := Aside0.mk ((by rw [hg]; exact (below_size (q4_ HB.out GE320.out)) : w.heap.size ≤ gb321)); have n9_ := Aside0.mk ((by rw [hg]; exact Nat.ne_of_lt (blk_lt (g := gb320) (o := .cells #[.int .i64 0, .string (⟨#[]⟩ : ByteArray), .slice none 0 0, .slice none 0 0, .int .i64 0] 26 (0, 0)) (q3_ BK320.out)) : gb320 ≠ gb321)); have n10_ := Aside0.mk ((by rw [hg]; exact Nat.ne_of_gt (blk_lt (g := gb320) (o := .cells #[.int .i64 0, .string (⟨#[]⟩ : ByteArray), .slice none 0 0, .slice none 0 0, .int .i64 0] 26 (0, 0)) (q3_ BK320.out)) : gb321 ≠ gb320)); clear HO306; clear HO309; clear HO315; clear HO318; clear BK320; clear HB; have HO306 := n0_; have HO309 := n1_; have HO315 := n2_; have HO318 := n3_; have BK320 := n4_; have HB := n5_; have BK321 := n6_; have GW321 := n7_; have GE321 := n8_; have NB320_321 := n9_; have NB321_320 := n10_; clear n0_ n1_ n2_ n3_ n4_ n5_ n6_ n7_ n8_ n9_ n10_; clear hb hbox hg; have hnb13 := NB320_321.out; have hnc13 := NB321_320.out; have hcz14_0 : w12.cell? ⟨gb320, 0, none⟩ = some (.int .i64 0) := (blk_cell BK320.out 0).trans rfl; have hcz14_1 : w12.cell? ⟨gb320, 1, none⟩ = some (.string (⟨#[]⟩ : ByteArray)) := (blk_cell BK320.out 1).trans rfl; have hcz14_2 : w12.cell? ⟨gb320, 2, none⟩ = some (.slice none 0 0) := (blk_cell BK320.out 2).trans rfl; have hcz14_3 : w12.cell? ⟨gb320, 3, none⟩ = some (.slice none 0 0) := (blk_cell BK320.out 3).trans rfl; have hcz14_4 : w12.cell? ⟨gb320, 4, none⟩ = some (.int .i64 0) := (blk_cell BK320.out 4).trans rfl; have hfz14_0 := blk_frozen BK320.out 0; have hfz14_1 := blk_frozen BK320.out 1; have hfz14_2 := blk_frozen BK320.out 2; have hfz14_3 := blk_frozen BK320.out 3; have hfz14_4 := blk_frozen BK320.out 4; obtain ⟨Ao15, co15, eo15⟩ := Kd.R_slice HO306.out; subst eo15; obtain ⟨Ao16, co16, eo16⟩ := Kd.R_slice HO309.out; subst eo16; have hcz17_0 : w12.cell? ⟨gb321, 0, none⟩ = some (.int .i64 0) := (blk_cell BK321.out 0).trans rfl; have hcz17_1 : w12.cell? ⟨gb321, 1, none⟩ = some (.string (⟨#[]⟩ : ByteArray)) := (blk_cell BK321.out 1).trans rfl; have hcz17_2 : w12.cell? ⟨gb321, 2, none⟩ = some (.slice none 0 0) := (blk_cell BK321.out 2).trans rfl; have hcz17_3 : w12.cell? ⟨gb321, 3, none⟩ = some (.slice none 0 0) := (blk_cell BK321.out 3).trans rfl; have hcz17_4 : w12.cell? ⟨gb321, 4, none⟩ = some (.int .i64 0) := (blk_cell BK321.out 4).trans rfl; have hfz17_0 := blk_frozen BK321.out 0; have hfz17_1 := blk_frozen BK321.out 1; have hfz17_2 := blk_frozen BK321.out 2; have hfz17_3 := blk_frozen BK321.out 3; have hfz17_4 := blk_frozen BK321.out 4; obtain ⟨Ao18, co18, eo18⟩ := Kd.R_slice HO315.out; subst eo18; obtain ⟨Ao19, co19, eo19⟩ := Kd.R_slice HO318.out; subst eo19) | ((with_reducible refine gate_callee (f := 19) rfl ?_); refine goesL_ (some 21) rfl rfl Try.func19 (by kernel_rfl) rfl #[.agg #[.int .i64 t302, .string t303, .slice Ao15 t304.length co15, .slice Ao16 t307.length co16, .int .i64 t310]] rfl qM_ ?_; (with_reducible refine (item_Copy.calls t302 t303 _ _ t304 _ _ t307 t310 t322 t323 t324 t327 t330 _ ?side1 ?side2 ?side3 ?side4 A7.out).mono ?_); (case side1 => refine (Kd.R_reads' (e := 29) (base := w.heap.size) (ok := fun k_ => (True ∧ some k_ ≠ (.slice Ao18 t313.length co18 : Value).ownBlock)) (n := t304.length) (c := co15) ?_).2.2; exact (by (with_reducible repeat (first | apply Kd.R_alloc | apply Kd.R_drewN | apply Kd.R_drew)); exact (Kd.R_mono (Kd.R_mono (Kd.R_far (p := ⟨gb321, 4, none⟩) (Kd.R_far (p := ⟨gb321, 3, none⟩) (Kd.R_far (p := ⟨gb321, 2, none⟩) (Kd.R_far (p := ⟨gb321, 1, none⟩) (Kd.R_far (p := ⟨gb321, 0, none⟩) (Kd.R_far (p := ⟨gb320, 4, none⟩) (Kd.R_far (p := ⟨gb320, 3, none⟩) (Kd.R_far (p := ⟨gb320, 2, none⟩) (Kd.R_far (p := ⟨gb320, 1, none⟩) (Kd.R_far (p := ⟨gb320, 0, none⟩) (Kd.R_types (Kd.R_types HO306.out BK320.out (by decide)) BK321.out (by decide)) (fun _ hk => hk.1.2) (.int .i64 t302)) (fun _ hk => hk.1.2) (.string t303)) (fun _ hk => hk.1.2) (.slice Ao15 t304.length co15)) (fun _ hk => hk.1.2) (.slice Ao16 t307.length co16)) (fun _ hk => hk.1.2) (.int .i64 t310)) (fun _ hk => hk.2) (.int .i64 t311)) (fun _ hk => hk.2) (.string t312)) (fun _ hk => hk.2) (.slice Ao18 t313.length co18)) (fun _ hk => hk.2) (.slice Ao19 t316.length co19)) (fun _ hk => hk.2) (.int .i64 t319)) (fun _ h_ => h_.1)) (fun _ h_ => h_.1)))); (case side2 => exact (Kd.R_reads' HO306.out).2.1); (case side3 => refine (Kd.R_reads' (e := 9) (base := w.heap.size) (ok := fun k_ => (True ∧ some k_ ≠ (.slice Ao19 t316.length co19 : Value).ownBlock)) (n := t307.length) (c := co16) ?_).2.2; exact (by (with_reducible repeat (first | apply Kd.R_alloc | apply Kd.R_drewN | apply Kd.R_drew)); exact (Kd.R_mono (Kd.R_mono (Kd.R_far (p := ⟨gb321, 4, none⟩) (Kd.R_far (p := ⟨gb321, 3, none⟩) (Kd.R_far (p := ⟨gb321, 2, none⟩) (Kd.R_far (p := ⟨gb321, 1, none⟩) (Kd.R_far (p := ⟨gb321, 0, none⟩) (Kd.R_far (p := ⟨gb320, 4, none⟩) (Kd.R_far (p := ⟨gb320, 3, none⟩) (Kd.R_far (p := ⟨gb320, 2, none⟩) (Kd.R_far (p := ⟨gb320, 1, none⟩) (Kd.R_far (p := ⟨gb320, 0, none⟩) (Kd.R_types (Kd.R_types HO309.out BK320.out (by decide)) BK321.out (by decide)) (fun _ hk => hk.1.2) (.int .i64 t302)) (fun _ hk => hk.1.2) (.string t303)) (fun _ hk => hk.1.2) (.slice Ao15 t304.length co15)) (fun _ hk => hk.1.2) (.slice Ao16 t307.length co16)) (fun _ hk => hk.1.2) (.int .i64 t310)) (fun _ hk => hk.2) (.int .i64 t311)) (fun _ hk => hk.2) (.string t312)) (fun _ hk => hk.2) (.slice Ao18 t313.length co18)) (fun _ hk => hk.2) (.slice Ao19 t316.length co19)) (fun _ hk => hk.2) (.int .i64 t319)) (fun _ h_ => h_.1)) (fun _ h_ => h_.1)))); (case side4 => exact (Kd.R_reads' HO309.out).2.1); rintro e w20 ⟨v325, v328, rfl, ho0, ho1, hb⟩; refine ⟨_, rfl, ?_⟩; have n0_ := Aside0.mk (Kd.R_elder' (by (with_reducible repeat (first | apply Kd.R_alloc | apply Kd.R_drewN | apply Kd.R_drew)); exact (Kd.R_mono (Kd.R_mono (Kd.R_far (p := ⟨gb321, 4, none⟩) (Kd.R_far (p := ⟨gb321, 3, none⟩) (Kd.R_far (p := ⟨gb321, 2, none⟩) (Kd.R_far (p := ⟨gb321, 1, none⟩) (Kd.R_far (p := ⟨gb321, 0, none⟩) (Kd.R_far (p := ⟨gb320, 4, none⟩) (Kd.R_far (p := ⟨gb320, 3, none⟩) (Kd.R_far (p := ⟨gb320, 2, none⟩) (Kd.R_far (p := ⟨gb320, 1, none⟩) (Kd.R_far (p := ⟨gb320, 0, none⟩) (Kd.R_types (Kd.R_types HO306.out BK320.out (by decide)) BK321.out (by decide)) (fun _ hk => hk.1.2) (.int .i64 t302)) (fun _ hk => hk.1.2) (.string t303)) (fun _ hk => hk.1.2) (.slice Ao15 t304.length co15)) (fun _ hk => hk.1.2) (.slice Ao16 t307.length co16)) (fun _ hk => hk.1.2) (.int .i64 t310)) (fun _ hk => hk.2) (.int .i64 t311)) (fun _ hk => hk.2) (.string t312)) (fun _ hk => hk.2) (.slice Ao18 t313.length co18)) (fun _ hk => hk.2) (.slice Ao19 t316.length co19)) (fun _ hk => hk.2) (.int .i64 t319)) (fun _ h_ => h_.1)) (fun _ h_ => h_.1))) (Kd.R_base ho0) hb); have n1_ := Aside0.mk (Kd.R_elder' (by (with_reducible repeat (first | apply Kd.R_alloc | apply Kd.R_drewN | apply Kd.R_drew)); exact (Kd.R_mono (Kd.R_mono (Kd.R_far (p := ⟨gb321, 4, none⟩) (Kd.R_far (p := ⟨gb321, 3, none⟩) (Kd.R_far (p := ⟨gb321, 2, none⟩) (Kd.R_far (p := ⟨gb321, 1, none⟩) (Kd.R_far (p := ⟨gb321, 0, none⟩) (Kd.R_far (p := ⟨gb320, 4, none⟩) (Kd.R_far (p := ⟨gb320, 3, none⟩) (Kd.R_far (p := ⟨gb320, 2, none⟩) (Kd.R_far (p := ⟨gb320, 1, none⟩) (Kd.R_far (p := ⟨gb320, 0, none⟩) (Kd.R_types (Kd.R_types HO309.out BK320.out (by decide)) BK321.out (by decide)) (fun _ hk => hk.1.2) (.int .i64 t302)) (fun _ hk => hk.1.2) (.string t303)) (fun _ hk => hk.1.2) (.slice Ao15 t304.length co15)) (fun _ hk => hk.1.2) (.slice Ao16 t307.length co16)) (fun _ hk => hk.1.2) (.int .i64 t310)) (fun _ hk => hk.2) (.int .i64 t311)) (fun _ hk => hk.2) (.string t312)) (fun _ hk => hk.2) (.slice Ao18 t313.length co18)) (fun _ hk => hk.2) (.slice Ao19 t316.length co19)) (fun _ hk => hk.2) (.int .i64 t319)) (fun _ h_ => h_.1)) (fun _ h_ => h_.1))) (Kd.R_base ho1) hb); have n2_ := Aside0.mk (Kd.R_elder' (by (with_reducible repeat (first | apply Kd.R_alloc | apply Kd.R_drewN | apply Kd.R_drew)); exact (Kd.R_mono (Kd.R_mono (Kd.R_far (p := ⟨gb321, 4, none⟩) (Kd.R_far (p := ⟨gb321, 3, none⟩) (Kd.R_far (p := ⟨gb321, 2, none⟩) (Kd.R_far (p := ⟨gb321, 1, none⟩) (Kd.R_far (p := ⟨gb321, 0, none⟩) (Kd.R_far (p := ⟨gb320, 4, none⟩) (Kd.R_far (p := ⟨gb320, 3, none⟩) (Kd.R_far (p := ⟨gb320, 2, none⟩) (Kd.R_far (p := ⟨gb320, 1, none⟩) (Kd.R_far (p := ⟨gb320, 0, none⟩) (Kd.R_types (Kd.R_types HO315.out BK320.out (by decide)) BK321.out (by decide)) (fun _ hk => hk.1.2) (.int .i64 t302)) (fun _ hk => hk.1.2) (.string t303)) (fun _ hk => hk.1.2) (.slice Ao15 t304.length co15)) (fun _ hk => hk.1.2) (.slice Ao16 t307.length co16)) (fun _ hk => hk.1.2) (.int .i64 t310)) (fun _ hk => hk.2) (.int .i64 t311)) (fun _ hk => hk.2) (.string t312)) (fun _ hk => hk.2) (.slice Ao18 t313.length co18)) (fun _ hk => hk.2) (.slice Ao19 t316.length co19)) (fun _ hk => hk.2) (.int .i64 t319)) (fun _ h_ => h_.1)) (fun _ h_ => h_.1))) (Kd.R_base ho0) hb); have n3_ := Aside0.mk (Kd.R_elder' (by (with_reducible repeat (first | apply Kd.R_alloc | apply Kd.R_drewN | apply Kd.R_drew)); exact (Kd.R_mono (Kd.R_mono (Kd.R_far (p := ⟨gb321, 4, none⟩) (Kd.R_far (p := ⟨gb321, 3, none⟩) (Kd.R_far (p := ⟨gb321, 2, none⟩) (Kd.R_far (p := ⟨gb321, 1, none⟩) (Kd.R_far (p := ⟨gb321, 0, none⟩) (Kd.R_far (p := ⟨gb320, 4, none⟩) (Kd.R_far (p := ⟨gb320, 3, none⟩) (Kd.R_far (p := ⟨gb320, 2, none⟩) (Kd.R_far (p := ⟨gb320, 1, none⟩) (Kd.R_far (p := ⟨gb320, 0, none⟩) (Kd.R_types (Kd.R_types HO318.out BK320.out (by decide)) BK321.out (by decide)) (fun _ hk => hk.1.2) (.int .i64 t302)) (fun _ hk => hk.1.2) (.string t303)) (fun _ hk => hk.1.2) (.slice Ao15 t304.length co15)) (fun _ hk => hk.1.2) (.slice Ao16 t307.length co16)) (fun _ hk => hk.1.2) (.int .i64 t310)) (fun _ hk => hk.2) (.int .i64 t311)) (fun _ hk => hk.2) (.string t312)) (fun _ hk => hk.2) (.slice Ao18 t313.length co18)) (fun _ hk => hk.2) (.slice Ao19 t316.length co19)) (fun _ hk => hk.2) (.int .i64 t319)) (fun _ h_ => h_.1)) (fun _ h_ => h_.1))) (Kd.R_base ho1) hb); have n4_ := Aside0.mk (Kd.R_lower (Kd.R_new' (Kd.R_new' ho0 (Kd.R_lt (by (with_reducible repeat (first | apply Kd.R_alloc | apply Kd.R_drewN | apply Kd.R_drew)); exact (Kd.R_mono (Kd.R_mono (Kd.R_far (p := ⟨gb321, 4, none⟩) (Kd.R_far (p := ⟨gb321, 3, none⟩) (Kd.R_far (p := ⟨gb321, 2, none⟩) (Kd.R_far (p := ⟨gb321, 1, none⟩) (Kd.R_far (p := ⟨gb321, 0, none⟩) (Kd.R_far (p := ⟨gb320, 4, none⟩) (Kd.R_far (p := ⟨gb320, 3, none⟩) (Kd.R_far (p := ⟨gb320, 2, none⟩) (Kd.R_far (p := ⟨gb320, 1, none⟩) (Kd.R_far (p := ⟨gb320, 0, none⟩) (Kd.R_types (Kd.R_types HO306.out BK320.out (by decide)) BK321.out (by decide)) (fun _ hk => hk.1.2) (.int .i64 t302)) (fun _ hk => hk.1.2) (.string t303)) (fun _ hk => hk.1.2) (.slice Ao15 t304.length co15)) (fun _ hk => hk.1.2) (.slice Ao16 t307.length co16)) (fun _ hk => hk.1.2) (.int .i64 t310)) (fun _ hk => hk.2) (.int .i64 t311)) (fun _ hk => hk.2) (.string t312)) (fun _ hk => hk.2) (.slice Ao18 t313.length co18)) (fun _ hk => hk.2) (.slice Ao19 t316.length co19)) (fun _ hk => hk.2) (.int .i64 t319)) (fun _ h_ => h_.1)) (fun _ h_ => h_.1))))) (Kd.R_lt (by (with_reducible repeat (first | apply Kd.R_alloc | apply Kd.R_drewN | apply Kd.R_drew)); exact (Kd.R_mono (Kd.R_mono (Kd.R_far (p := ⟨gb321, 4, none⟩) (Kd.R_far (p := ⟨gb321, 3, none⟩) (Kd.R_far (p := ⟨gb321, 2, none⟩) (Kd.R_far (p := ⟨gb321, 1, none⟩) (Kd.R_far (p := ⟨gb321, 0, none⟩) (Kd.R_far (p := ⟨gb320, 4, none⟩) (Kd.R_far (p := ⟨gb320, 3, none⟩) (Kd.R_far (p := ⟨gb320, 2, none⟩) (Kd.R_far (p := ⟨gb320, 1, none⟩) (Kd.R_far (p := ⟨gb320, 0, none⟩) (Kd.R_types (Kd.R_types HO315.out BK320.out (by decide)) BK321.out (by decide)) (fun _ hk => hk.1.2) (.int .i64 t302)) (fun _ hk => hk.1.2) (.string t303)) (fun _ hk => hk.1.2) (.slice Ao15 t304.length co15)) (fun _ hk => hk.1.2) (.slice Ao16 t307.length co16)) (fun _ hk => hk.1.2) (.int .i64 t310)) (fun _ hk => hk.2) (.int .i64 t311)) (fun _ hk => hk.2) (.string t312)) (fun _ hk => hk.2) (.slice Ao18 t313.length co18)) (fun _ hk => hk.2) (.slice Ao19 t316.length co19)) (fun _ hk => hk.2) (.int .i64 t319)) (fun _ h_ => h_.1)) (fun _ h_ => h_.1))))) (below_size (q5_ HB.out GE320.out GE321.out))); have n5_ := Aside0.mk (Kd.R_lower (Kd.R_new' (Kd.R_new' ho1 (Kd.R_lt (by (with_reducible repeat (first | apply Kd.R_alloc | apply Kd.R_drewN | apply Kd.R_drew)); exact (Kd.R_mono (Kd.R_mono (Kd.R_far (p := ⟨gb321, 4, none⟩) (Kd.R_far (p := ⟨gb321, 3, none⟩) (Kd.R_far (p := ⟨gb321, 2, none⟩) (Kd.R_far (p := ⟨gb321, 1, none⟩) (Kd.R_far (p := ⟨gb321, 0, none⟩) (Kd.R_far (p := ⟨gb320, 4, none⟩) (Kd.R_far (p := ⟨gb320, 3, none⟩) (Kd.R_far (p := ⟨gb320, 2, none⟩) (Kd.R_far (p := ⟨gb320, 1, none⟩) (Kd.R_far (p := ⟨gb320, 0, none⟩) (Kd.R_types (Kd.R_types HO309.out BK320.out (by decide)) BK321.out (by decide)) (fun _ hk => hk.1.2) (.int .i64 t302)) (fun _ hk => hk.1.2) (.string t303)) (fun _ hk => hk.1.2) (.slice Ao15 t304.length co15)) (fun _ hk => hk.1.2) (.slice Ao16 t307.length co16)) (fun _ hk => hk.1.2) (.int .i64 t310)) (fun _ hk => hk.2) (.int .i64 t311)) (fun _ hk => hk.2) (.string t312)) (fun _ hk => hk.2) (.slice Ao18 t313.length co18)) (fun _ hk => hk.2) (.slice Ao19 t316.length co19)) (fun _ hk => hk.2) (.int .i64 t319)) (fun _ h_ => h_.1)) (fun _ h_ => h_.1))))) (Kd.R_lt (by (with_reducible repeat (first | apply Kd.R_alloc | apply Kd.R_drewN | apply Kd.R_drew)); exact (Kd.R_mono (Kd.R_mono (Kd.R_far (p := ⟨gb321, 4, none⟩) (Kd.R_far (p := ⟨gb321, 3, none⟩) (Kd.R_far (p := ⟨gb321, 2, none⟩) (Kd.R_far (p := ⟨gb321, 1, none⟩) (Kd.R_far (p := ⟨gb321, 0, none⟩) (Kd.R_far (p := ⟨gb320, 4, none⟩) (Kd.R_far (p := ⟨gb320, 3, none⟩) (Kd.R_far (p := ⟨gb320, 2, none⟩) (Kd.R_far (p := ⟨gb320, 1, none⟩) (Kd.R_far (p := ⟨gb320, 0, none⟩) (Kd.R_types (Kd.R_types HO318.out BK320.out (by decide)) BK321.out (by decide)) (fun _ hk => hk.1.2) (.int .i64 t302)) (fun _ hk => hk.1.2) (.string t303)) (fun _ hk => hk.1.2) (.slice Ao15 t304.length co15)) (fun _ hk => hk.1.2) (.slice Ao16 t307.length co16)) (fun _ hk => hk.1.2) (.int .i64 t310)) (fun _ hk => hk.2) (.int .i64 t311)) (fun _ hk => hk.2) (.string t312)) (fun _ hk => hk.2) (.slice Ao18 t313.length co18)) (fun _ hk => hk.2) (.slice Ao19 t316.length co19)) (fun _ hk => hk.2) (.int .i64 t319)) (fun _ h_ => h_.1)) (fun _ h_ => h_.1))))) (below_size (q5_ HB.out GE320.out GE321.out))); have n6_ := Aside0.mk (blk_below (g := gb320) (o := .cells #[.int .i64 t302, .string t303, .slice Ao15 t304.length co15, .slice Ao16 t307.length co16, .int .i64 t310] 26 (0, 0)) (by (with_reducible repeat (first | refine blk_drewN ?_ _ | refine blk_drew ?_ | refine blk_alloc ?_ _)); refine blk_far ?_ NB320_321.out _; (with_reducible repeat (first | refine blk_drewN ?_ _ | refine blk_drew ?_ | refine blk_alloc ?_ _)); refine blk_far ?_ NB320_321.out _; (with_reducible repeat (first | refine blk_drewN ?_ _ | refine blk_drew ?_ | refine blk_alloc ?_ _)); refine blk_far ?_ NB320_321.out _; (with_reducible repeat (first | refine blk_drewN ?_ _ | refine blk_drew ?_ | refine blk_alloc ?_ _)); refine blk_far ?_ NB320_321.out _; (with_reducible repeat (first | refine blk_drewN ?_ _ | refine blk_drew ?_ | refine blk_alloc ?_ _)); refine blk_far ?_ NB320_321.out _; (with_reducible repeat (first | refine blk_drewN ?_ _ | refine blk_drew ?_ | refine blk_alloc ?_ _)); refine blk_put (cs := #[.int .i64 t302, .string t303, .slice Ao15 t304.length co15, .slice Ao16 t307.length co16, .int .i64 0]) ?_ 4 _ rfl; (with_reducible repeat (first | refine blk_drewN ?_ _ | refine blk_drew ?_ | refine blk_alloc ?_ _)); refine blk_put (cs := #[.int .i64 t302, .string t303, .slice Ao15 t304.length co15, .slice none 0 0, .int .i64 0]) ?_ 3 _ rfl; (with_reducible repeat (first | refine blk_drewN ?_ _ | refine blk_drew ?_ | refine blk_alloc ?_ _)); refine blk_put (cs := #[.int .i64 t302, .string t303, .slice none 0 0, .slice none 0 0, .int .i64 0]) ?_ 2 _ rfl; (with_reducible repeat (first | refine blk_drewN ?_ _ | refine blk_drew ?_ | refine blk_alloc ?_ _)); refine blk_put (cs := #[.int .i64 t302, .string (⟨#[]⟩ : ByteArray), .slice none 0 0, .slice none 0 0, .int .i64 0]) ?_ 1 _ rfl; (with_reducible repeat (first | refine blk_drewN ?_ _ | refine blk_drew ?_ | refine blk_alloc ?_ _)); refine blk_put (cs := #[.int .i64 0, .string (⟨#[]⟩ : ByteArray), .slice none 0 0, .slice none 0 0, .int .i64 0]) ?_ 0 _ rfl; (with_reducible repeat (first | refine blk_drewN ?_ _ | refine blk_drew ?_ | refine blk_alloc ?_ _)); exact BK320.out) hb); have n7_ := Aside0.mk (blk_below (g := gb321) (o := .cells #[.int .i64 t311, .string t312, .slice Ao18 t313.length co18, .slice Ao19 t316.length co19, .int .i64 t319] 26 (0, 0)) (by (with_reducible repeat (first | refine blk_drewN ?_ _ | refine blk_drew ?_ | refine blk_alloc ?_ _)); refine blk_put (cs := #[.int .i64 t311, .string t312, .slice Ao18 t313.length co18, .slice Ao19 t316.length co19, .int .i64 0]) ?_ 4 _ rfl; (with_reducible repeat (first | refine blk_drewN ?_ _ | refine blk_drew ?_ | refine blk_alloc ?_ _)); refine blk_put (cs := #[.int .i64 t311, .string t312, .slice Ao18 t313.length co18, .slice none 0 0, .int .i64 0]) ?_ 3 _ rfl; (with_reducible repeat (first | refine blk_drewN ?_ _ | refine blk_drew ?_ | refine blk_alloc ?_ _)); refine blk_put (cs := #[.int .i64 t311, .string t312, .slice none 0 0, .slice none 0 0, .int .i64 0]) ?_ 2 _ rfl; (with_reducible repeat (first | refine blk_drewN ?_ _ | refine blk_drew ?_ | refine blk_alloc ?_ _)); refine blk_put (cs := #[.int .i64 t311, .string (⟨#[]⟩ : ByteArray), .slice none 0 0, .slice none 0 0, .int .i64 0]) ?_ 1 _ rfl; (with_reducible repeat (first | refine blk_drewN ?_ _ | refine blk_drew ?_ | refine blk_alloc ?_ _)); refine blk_put (cs := #[.int .i64 0, .string (⟨#[]⟩ : ByteArray), .slice none 0 0, .slice none 0 0, .int .i64 0]) ?_ 0 _ rfl; (with_reducible repeat (first | refine blk_drewN ?_ _ | refine blk_drew ?_ | refine blk_alloc ?_ _)); refine blk_far ?_ NB321_320.out _; (with_reducible repeat (first | refine blk_drewN ?_ _ | refine blk_drew ?_ | refine blk_alloc ?_ _)); refine blk_far ?_ NB321_320.out _; (with_reducible repeat (first | refine blk_drewN ?_ _ | refine blk_drew ?_ | refine blk_alloc ?_ _)); refine blk_far ?_ NB321_320.out _; (with_reducible repeat (first | refine blk_drewN ?_ _ | refine blk_drew ?_ | refine blk_alloc ?_ _)); refine blk_far ?_ NB321_320.out _; (with_reducible repeat (first | refine blk_drewN ?_ _ | refine blk_drew ?_ | refine blk_alloc ?_ _)); refine blk_far ?_ NB321_320.out _; (with_reducible repeat (first | refine blk_drewN ?_ _ | refine blk_drew ?_ | refine blk_alloc ?_ _)); exact BK321.out) hb); have n8_ := Aside0.mk (below_step (q5_ HB.out GE320.out GE321.out) hb); clear HO306; clear HO309; clear HO315; clear HO318; clear BK320; clear BK321; clear HB; have HO306 := n0_; have HO309 := n1_; have HO315 := n2_; have HO318 := n3_; have HO326 := n4_; have HO329 := n5_; have BK320 := n6_; have BK321 := n7_; have HB := n8_; clear n0_ n1_ n2_ n3_ n4_ n5_ n6_ n7_ n8_; (try clear hb); (try clear hb2); (try clear hk); (try clear hi); (try clear ho0); (try clear ho1)) | ((with_reducible refine gate_dst (N := 11) rfl ?_); refine box_event ?hg (N := 11) ?hd (cs := #[.int .i64 0, .string (⟨#[]⟩ : ByteArray), .slice none 0 0, .slice none 0 0, .int .i64 0]) (t := 26) ?hr ?_; (case hd => rfl); (case hg => rfl); (case hr => first | (go_simp; done) | (go_simp; rfl)); intro gb331 hg w21 hbox hb; have n0_ := Aside0.mk (Kd.R_below (q1_ HO306.out) hb); have n1_ := Aside0.mk (Kd.R_below (q1_ HO309.out) hb); have n2_ := Aside0.mk (Kd.R_below (q1_ HO315.out) hb); have n3_ := Aside0.mk (Kd.R_below (q1_ HO318.out) hb); have n4_ := Aside0.mk (Kd.R_below (q1_ HO326.out) hb); have n5_ := Aside0.mk (Kd.R_below (q1_ HO329.out) hb); have n6_ := Aside0.mk (blk_below (g := gb320) (o := .cells #[.int .i64 t302, .string t303, .slice Ao15 t304.length co15, .slice Ao16 t307.length co16, .int .i64 t310] 26 (0, 0)) (q3_ BK320.out) hb); have n7_ := Aside0.mk (blk_below (g := gb321) (o := .cells #[.int .i64 t311, .string t312, .slice Ao18 t313.length co18, .slice Ao19 t316.length co19, .int .i64 t319] 26 (0, 0)) (q3_ BK321.out) hb); have n8_ := Aside0.mk (below_step (q5_ HB.out GE320.out GE321.out) hb); have n9_ := Aside0.mk (hbox); have n10_ := Aside0.mk ((by rw [hg]; exact (below_size (q5_ HB.out GE320.out GE321.out)) : w.heap.size ≤ gb331)); have n11_ := Aside0.mk ((by rw [hg]; exact (below_size (q5_ HB.out GE320.out GE321.out)) : w.heap.size ≤ gb331)); have n12_ := Aside0.mk ((by rw [hg]; exact Nat.ne_of_lt (blk_lt (g := gb320) (o := .cells #[.int .i64 t302, .string t303, .slice Ao15 t304.length co15, .slice Ao16 t307.length co16, .int .i64 t310] 26 (0, 0)) (q3_ BK320.out)) : gb320 ≠ gb331)); have n13_ := Aside0.mk ((by rw [hg]; exact Nat.ne_of_gt (blk_lt (g := gb320) (o := .cells #[.int .i64 t302, .string t303, .slice Ao15 t304.length co15, .slice Ao16 t307.length co16, .int .i64 t310] 26 (0, 0)) (q3_ BK320.out)) : gb331 ≠ gb320)); have n14_ := Aside0.mk ((by rw [hg]; exact Nat.ne_of_lt (blk_lt (g := gb321) (o := .cells #[.int .i64 t311, .string t312, .slice Ao18 t313.length co18, .slice Ao19 t316.length co19, .int .i64 t319] 26 (0, 0)) (q3_ BK321.out)) : gb321 ≠ gb331)); have n15_ := Aside0.mk ((by rw [hg]; exact Nat.ne_of_gt (blk_lt (g := gb321) (o := .cells #[.int .i64 t311, .string t312, .slice Ao18 t313.length co18, .slice Ao19 t316.length co19, .int .i64 t319] 26 (0, 0)) (q3_ BK321.out)) : gb331 ≠ gb321)); clear HO306; clear HO309; clear HO315; clear HO318; clear HO326; clear HO329; clear BK320; clear BK321; clear HB; have HO306 := n0_; have HO309 := n1_; have HO315 := n2_; have HO318 := n3_; have HO326 := n4_; have HO329 := n5_; have BK320 := n6_; have BK321 := n7_; have HB := n8_; have BK331 := n9_; have GW331 := n10_; have GE331 := n11_; have NB320_331 := n12_; have NB331_320 := n13_; have NB321_331 := n14_; have NB331_321 := n15_; clear n0_ n1_ n2_ n3_ n4_ n5_ n6_ n7_ n8_ n9_ n10_ n11_ n12_ n13_ n14_ n15_; clear hb hbox hg; have hnb22 := NB331_320.out; have hnc22 := NB320_331.out; have hnb23 := NB331_321.out; have hnc23 := NB321_331.out; have hcz24_0 : w21.cell? ⟨gb331, 0, none⟩ = some (.int .i64 0) := (blk_cell BK331.out 0).trans rfl; have hcz24_1 : w21.cell? ⟨gb331, 1, none⟩ = some (.string (⟨#[]⟩ : ByteArray)) := (blk_cell BK331.out 1).trans rfl; have hcz24_2 : w21.cell? ⟨gb331, 2, none⟩ = some (.slice none 0 0) := (blk_cell BK331.out 2).trans rfl; have hcz24_3 : w21.cell? ⟨gb331, 3, none⟩ = some (.slice none 0 0) := (blk_cell BK331.out 3).trans rfl; have hcz24_4 : w21.cell? ⟨gb331, 4, none⟩ = some (.int .i64 0) := (blk_cell BK331.out 4).trans rfl; have hfz24_0 := blk_frozen BK331.out 0; have hfz24_1 := blk_frozen BK331.out 1; have hfz24_2 := blk_frozen BK331.out 2; have hfz24_3 := blk_frozen BK331.out 3; have hfz24_4 := blk_frozen BK331.out 4; obtain ⟨Ao25, co25, eo25⟩ := Kd.R_slice HO326.out; subst eo25; obtain ⟨Ao26, co26, eo26⟩ := Kd.R_slice HO329.out; subst eo26))
 (try simp only [Act.put, List.setIfInBounds_toArray, List.set_cons_zero, List.set_cons_succ])
 go_cut [57] (fun v57 wc => ∃ (kq : Nat) (x57_7 : Bool), v57 = .bool x57_7 ∧ Aside0 (caravanlaw5_ItemMade.j0 kq l0 a2 x57_7 t302 t303 t304 t307 t310 t322 t323 t324 t327 t330 = some r) ∧ Aside0 (kq ≤ k) ∧ Aside0 (Kd.R k29 29 wc w.heap.size (fun k_ => some k_ ≠ ((.slice Ao18 t313.length co18) : Value).ownBlock ∧ some k_ ≠ ((.slice Ao25 t324.length co25) : Value).ownBlock) (.slice Ao15 t304.length co15) t304) ∧ Aside0 (Kd.R Kd.string 9 wc w.heap.size (fun k_ => some k_ ≠ ((.slice Ao19 t316.length co19) : Value).ownBlock ∧ some k_ ≠ ((.slice Ao26 t327.length co26) : Value).ownBlock) (.slice Ao16 t307.length co16) t307) ∧ Aside0 (Kd.R k29 29 wc w.heap.size (fun k_ => some k_ ≠ ((.slice Ao15 t304.length co15) : Value).ownBlock ∧ some k_ ≠ ((.slice Ao25 t324.length co25) : Value).ownBlock) (.slice Ao18 t313.length co18) t313) ∧ Aside0 (Kd.R Kd.string 9 wc w.heap.size (fun k_ => some k_ ≠ ((.slice Ao16 t307.length co16) : Value).ownBlock ∧ some k_ ≠ ((.slice Ao26 t327.length co26) : Value).ownBlock) (.slice Ao19 t316.length co19) t316) ∧ Aside0 (Kd.R k29 29 wc w.heap.size (fun k_ => some k_ ≠ ((.slice Ao15 t304.length co15) : Value).ownBlock ∧ some k_ ≠ ((.slice Ao18 t313.length co18) : Value).ownBlock) (.slice Ao25 t324.length co25) t324) ∧ Aside0 (Kd.R Kd.string 9 wc w.heap.size (fun k_ => some k_ ≠ ((.slice Ao16 t307.length co16) : Value).ownBlock ∧ some k_ ≠ ((.slice Ao19 t316.length co19) : Value).ownBlock) (.slice Ao26 t327.length co26) t327) ∧ Aside0 (wc.heap[gb320]? = some (.cells #[.int .i64 t302, .string t303, (.slice Ao15 t304.length co15), (.slice Ao16 t307.length co16), .int .i64 t310] 26 (0, 0))) ∧ Aside0 (wc.heap[gb321]? = some (.cells #[.int .i64 t311, .string t312, (.slice Ao18 t313.length co18), (.slice Ao19 t316.length co19), .int .i64 t319] 26 (0, 0))) ∧ Aside0 (wc.heap[gb331]? = some (.cells #[.int .i64 t322, .string t323, (.slice Ao25 t324.length co25), (.slice Ao26 t327.length co26), .int .i64 t330] 26 (0, 0))) ∧ Aside0 (Below w.heap.size w wc))
 case first =>
  have H := HC8.out
  clear HC8
  replace H := Option.bind_eq_some_iff.mp H
  obtain ⟨t332, A270, H⟩ := H
  replace H : (if t332 = true then ((item_Same.f k t302 t303 t304 t307 t310 t311 t312 t313 t316 t319).bind fun t333 => ((caravanref5_SameItem.f k t302 t303 t304 t307 t310 t311 t312 t313 t316 t319).bind fun t334 => (if (t333 != t334) = true then (caravanlaw5_ItemMade.j0 k l0 a2 true t302 t303 t304 t307 t310 t322 t323 t324 t327 t330) else ((item_Type.f t302 t303 t304 t307 t310).bind fun t335 => ((caravanref5_Type.f t302 t303 t304 t307 t310).bind fun t336 => (if t335.toList = t336.toList then ((item_Alive.f t302 t303 t304 t307 t310 (wrap64 (a3))).bind fun t337 => ((caravanref5_Alive.f t302 t303 t304 t307 t310 (wrap64 (a3))).bind fun t338 => (if (t337 != t338) = true then (caravanlaw5_ItemMade.j0 k l0 a2 true t302 t303 t304 t307 t310 t322 t323 t324 t327 t330) else ((caravanref5_SameItem.f k t322 t323 t324 t327 t330 t302 t303 t304 t307 t310).bind fun t339 => (caravanlaw5_ItemMade.j0 k l0 a2 (!t339) t302 t303 t304 t307 t310 t322 t323 t324 t327 t330))))) else (caravanlaw5_ItemMade.j0 k l0 a2 true t302 t303 t304 t307 t310 t322 t323 t324 t327 t330))))))) else (caravanlaw5_ItemMade.j0 k l0 a2 true t302 t303 t304 t307 t310 t322 t323 t324 t327 t330)) = some r := H
  have A27 := Aside0.mk A270
  clear A270
  by_cases c28 : t332 = true
  ·subst c28
   have H1 : ((item_Same.f k t302 t303 t304 t307 t310 t311 t312 t313 t316 t319).bind fun t333 => ((caravanref5_SameItem.f k t302 t303 t304 t307 t310 t311 t312 t313 t316 t319).bind fun t334 => (if (t333 != t334) = true then (caravanlaw5_ItemMade.j0 k l0 a2 true t302 t303 t304 t307 t310 t322 t323 t324 t327 t330) else ((item_Type.f t302 t303 t304 t307 t310).bind fun t335 => ((caravanref5_Type.f t302 t303 t304 t307 t310).bind fun t336 => (if t335.toList = t336.toList then ((item_Alive.f t302 t303 t304 t307 t310 (wrap64 (a3))).bind fun t337 => ((caravanref5_Alive.f t302 t303 t304 t307 t310 (wrap64 (a3))).bind fun t338 => (if (t337 != t338) = true then (caravanlaw5_ItemMade.j0 k l0 a2 true t302 t303 t304 t307 t310 t322 t323 t324 t327 t330) else ((caravanref5_SameItem.f k t322 t323 t324 t327 t330 t302 t303 t304 t307 t310).bind fun t339 => (caravanlaw5_ItemMade.j0 k l0 a2 (!t339) t302 t303 t304 t307 t310 t322 t323 t324 t327 t330))))) else (caravanlaw5_ItemMade.j0 k l0 a2 true t302 t303 t304 t307 t310 t322 t323 t324 t327 t330))))))) = some r := by rw [if_pos rfl] at H; exact H
   clear H
   have H := H1
   clear H1
   replace H := Option.bind_eq_some_iff.mp H
   obtain ⟨t333, A290, H⟩ := H
   replace H : ((caravanref5_SameItem.f k t302 t303 t304 t307 t310 t311 t312 t313 t316 t319).bind fun t334 => (if (t333 != t334) = true then (caravanlaw5_ItemMade.j0 k l0 a2 true t302 t303 t304 t307 t310 t322 t323 t324 t327 t330) else ((item_Type.f t302 t303 t304 t307 t310).bind fun t335 => ((caravanref5_Type.f t302 t303 t304 t307 t310).bind fun t336 => (if t335.toList = t336.toList then ((item_Alive.f t302 t303 t304 t307 t310 (wrap64 (a3))).bind fun t337 => ((caravanref5_Alive.f t302 t303 t304 t307 t310 (wrap64 (a3))).bind fun t338 => (if (t337 != t338) = true then (caravanlaw5_ItemMade.j0 k l0 a2 true t302 t303 t304 t307 t310 t322 t323 t324 t327 t330) else ((caravanref5_SameItem.f k t322 t323 t324 t327 t330 t302 t303 t304 t307 t310).bind fun t339 => (caravanlaw5_ItemMade.j0 k l0 a2 (!t339) t302 t303 t304 t307 t310 t322 t323 t324 t327 t330))))) else (caravanlaw5_ItemMade.j0 k l0 a2 true t302 t303 t304 t307 t310 t322 t323 t324 t327 t330)))))) = some r := H
   have A29 := Aside0.mk A290
   clear A290
   replace H := Option.bind_eq_some_iff.mp H
   obtain ⟨t334, A300, H⟩ := H
   replace H : (if (t333 != t334) = true then (caravanlaw5_ItemMade.j0 k l0 a2 true t302 t303 t304 t307 t310 t322 t323 t324 t327 t330) else ((item_Type.f t302 t303 t304 t307 t310).bind fun t335 => ((caravanref5_Type.f t302 t303 t304 t307 t310).bind fun t336 => (if t335.toList = t336.toList then ((item_Alive.f t302 t303 t304 t307 t310 (wrap64 (a3))).bind fun t337 => ((caravanref5_Alive.f t302 t303 t304 t307 t310 (wrap64 (a3))).bind fun t338 => (if (t337 != t338) = true then (caravanlaw5_ItemMade.j0 k l0 a2 true t302 t303 t304 t307 t310 t322 t323 t324 t327 t330) else ((caravanref5_SameItem.f k t322 t323 t324 t327 t330 t302 t303 t304 t307 t310).bind fun t339 => (caravanlaw5_ItemMade.j0 k l0 a2 (!t339) t302 t303 t304 t307 t310 t322 t323 t324 t327 t330))))) else (caravanlaw5_ItemMade.j0 k l0 a2 true t302 t303 t304 t307 t310 t322 t323 t324 t327 t330))))) = some r := H
   have A30 := Aside0.mk A300
   clear A300
   by_cases c31 : (t333 != t334) = true
   ·rw [if_pos c31] at H
    have c31b0 : (t333 != t334) = true := c31
    (try (have c31b1 : decide (t333 = t334) = false := by simpa using c31))
    (try (have c31b2 : (t333 == t334) = false := by simpa using c31))
    (try (have c31b3 : ¬ (t333 = t334) := by simpa using c31))
    clear c31
    (first | rw [c31b0] | (simp only [i64_w, i32_w]; rw [c31b0]) | skip)
    have H' := Aside0.mk H
    clear H
    try go_wp2
    have n0_ : Aside0 (Kd.R k29 29 (((((w21.setCell ⟨gb331, 0, none⟩ (.int .i64 t322)).setCell ⟨gb331, 1, none⟩ (.string t323)).setCell ⟨gb331, 2, none⟩ (.slice Ao25 t324.length co25)).setCell ⟨gb331, 3, none⟩ (.slice Ao26 t327.length co26)).setCell ⟨gb331, 4, none⟩ (.int .i64 t330)) w.heap.size (fun k_ => some k_ ≠ (.slice Ao18 t313.length co18 : Value).ownBlock ∧ some k_ ≠ (.slice Ao25 t324.length co25 : Value).ownBlock) (.slice Ao15 t304.length co15) t304) := ⟨by (with_reducible repeat (first | apply Kd.R_alloc | apply Kd.R_drewN | apply Kd.R_drew)); exact Kd.R_mono (Kd.R_far (p := ⟨gb331, 4, none⟩) (Kd.R_far (p := ⟨gb331, 3, none⟩) (Kd.R_far (p := ⟨gb331, 2, none⟩) (Kd.R_far (p := ⟨gb331, 1, none⟩) (Kd.R_far (p := ⟨gb331, 0, none⟩) (Kd.R_types HO306.out BK331.out (by decide)) (fun _ hk => hk.2) (.int .i64 t322)) (fun _ hk => hk.2) (.string t323)) (fun _ hk => hk.2) (.slice Ao25 t324.length co25)) (fun _ hk => hk.2) (.slice Ao26 t327.length co26)) (fun _ hk => hk.2) (.int .i64 t330)) (fun _ hk => ⟨hk.1.1.2, hk.1.2⟩)⟩
    have n1_ : Aside0 (Kd.R Kd.string 9 (((((w21.setCell ⟨gb331, 0, none⟩ (.int .i64 t322)).setCell ⟨gb331, 1, none⟩ (.string t323)).setCell ⟨gb331, 2, none⟩ (.slice Ao25 t324.length co25)).setCell ⟨gb331, 3, none⟩ (.slice Ao26 t327.length co26)).setCell ⟨gb331, 4, none⟩ (.int .i64 t330)) w.heap.size (fun k_ => some k_ ≠ (.slice Ao19 t316.length co19 : Value).ownBlock ∧ some k_ ≠ (.slice Ao26 t327.length co26 : Value).ownBlock) (.slice Ao16 t307.length co16) t307) := ⟨by (with_reducible repeat (first | apply Kd.R_alloc | apply Kd.R_drewN | apply Kd.R_drew)); exact Kd.R_mono (Kd.R_far (p := ⟨gb331, 4, none⟩) (Kd.R_far (p := ⟨gb331, 3, none⟩) (Kd.R_far (p := ⟨gb331, 2, none⟩) (Kd.R_far (p := ⟨gb331, 1, none⟩) (Kd.R_far (p := ⟨gb331, 0, none⟩) (Kd.R_types HO309.out BK331.out (by decide)) (fun _ hk => hk.2) (.int .i64 t322)) (fun _ hk => hk.2) (.string t323)) (fun _ hk => hk.2) (.slice Ao25 t324.length co25)) (fun _ hk => hk.2) (.slice Ao26 t327.length co26)) (fun _ hk => hk.2) (.int .i64 t330)) (fun _ hk => ⟨hk.1.1.2, hk.1.2⟩)⟩
    have n2_ : Aside0 (Kd.R k29 29 (((((w21.setCell ⟨gb331, 0, none⟩ (.int .i64 t322)).setCell ⟨gb331, 1, none⟩ (.string t323)).setCell ⟨gb331, 2, none⟩ (.slice Ao25 t324.length co25)).setCell ⟨gb331, 3, none⟩ (.slice Ao26 t327.length co26)).setCell ⟨gb331, 4, none⟩ (.int .i64 t330)) w.heap.size (fun k_ => some k_ ≠ (.slice Ao15 t304.length co15 : Value).ownBlock ∧ some k_ ≠ (.slice Ao25 t324.length co25 : Value).ownBlock) (.slice Ao18 t313.length co18) t313) := ⟨by (with_reducible repeat (first | apply Kd.R_alloc | apply Kd.R_drewN | apply Kd.R_drew)); exact Kd.R_mono (Kd.R_far (p := ⟨gb331, 4, none⟩) (Kd.R_far (p := ⟨gb331, 3, none⟩) (Kd.R_far (p := ⟨gb331, 2, none⟩) (Kd.R_far (p := ⟨gb331, 1, none⟩) (Kd.R_far (p := ⟨gb331, 0, none⟩) (Kd.R_types HO315.out BK331.out (by decide)) (fun _ hk => hk.2) (.int .i64 t322)) (fun _ hk => hk.2) (.string t323)) (fun _ hk => hk.2) (.slice Ao25 t324.length co25)) (fun _ hk => hk.2) (.slice Ao26 t327.length co26)) (fun _ hk => hk.2) (.int .i64 t330)) (fun _ hk => ⟨hk.1.1.2, hk.1.2⟩)⟩
    have n3_ : Aside0 (Kd.R Kd.string 9 (((((w21.setCell ⟨gb331, 0, none⟩ (.int .i64 t322)).setCell ⟨gb331, 1, none⟩ (.string t323)).setCell ⟨gb331, 2, none⟩ (.slice Ao25 t324.length co25)).setCell ⟨gb331, 3, none⟩ (.slice Ao26 t327.length co26)).setCell ⟨gb331, 4, none⟩ (.int .i64 t330)) w.heap.size (fun k_ => some k_ ≠ (.slice Ao16 t307.length co16 : Value).ownBlock ∧ some k_ ≠ (.slice Ao26 t327.length co26 : Value).ownBlock) (.slice Ao19 t316.length co19) t316) := ⟨by (with_reducible repeat (first | apply Kd.R_alloc | apply Kd.R_drewN | apply Kd.R_drew)); exact Kd.R_mono (Kd.R_far (p := ⟨gb331, 4, none⟩) (Kd.R_far (p := ⟨gb331, 3, none⟩) (Kd.R_far (p := ⟨gb331, 2, none⟩) (Kd.R_far (p := ⟨gb331, 1, none⟩) (Kd.R_far (p := ⟨gb331, 0, none⟩) (Kd.R_types HO318.out BK331.out (by decide)) (fun _ hk => hk.2) (.int .i64 t322)) (fun _ hk => hk.2) (.string t323)) (fun _ hk => hk.2) (.slice Ao25 t324.length co25)) (fun _ hk => hk.2) (.slice Ao26 t327.length co26)) (fun _ hk => hk.2) (.int .i64 t330)) (fun _ hk => ⟨hk.1.1.2, hk.1.2⟩)⟩
    have n4_ : Aside0 (Kd.R k29 29 (((((w21.setCell ⟨gb331, 0, none⟩ (.int .i64 t322)).setCell ⟨gb331, 1, none⟩ (.string t323)).setCell ⟨gb331, 2, none⟩ (.slice Ao25 t324.length co25)).setCell ⟨gb331, 3, none⟩ (.slice Ao26 t327.length co26)).setCell ⟨gb331, 4, none⟩ (.int .i64 t330)) w.heap.size (fun k_ => some k_ ≠ (.slice Ao15 t304.length co15 : Value).ownBlock ∧ some k_ ≠ (.slice Ao18 t313.length co18 : Value).ownBlock) (.slice Ao25 t324.length co25) t324) := ⟨by (with_reducible repeat (first | apply Kd.R_alloc | apply Kd.R_drewN | apply Kd.R_drew)); exact Kd.R_mono (Kd.R_far (p := ⟨gb331, 4, none⟩) (Kd.R_far (p := ⟨gb331, 3, none⟩) (Kd.R_far (p := ⟨gb331, 2, none⟩) (Kd.R_far (p := ⟨gb331, 1, none⟩) (Kd.R_far (p := ⟨gb331, 0, none⟩) (Kd.R_types HO326.out BK331.out (by decide)) (fun _ hk => hk.2) (.int .i64 t322)) (fun _ hk => hk.2) (.string t323)) (fun _ hk => hk.2) (.slice Ao25 t324.length co25)) (fun _ hk => hk.2) (.slice Ao26 t327.length co26)) (fun _ hk => hk.2) (.int .i64 t330)) (fun _ hk => ⟨hk.1.1.2, hk.1.2⟩)⟩
    have n5_ : Aside0 (Kd.R Kd.string 9 (((((w21.setCell ⟨gb331, 0, none⟩ (.int .i64 t322)).setCell ⟨gb331, 1, none⟩ (.string t323)).setCell ⟨gb331, 2, none⟩ (.slice Ao25 t324.length co25)).setCell ⟨gb331, 3, none⟩ (.slice Ao26 t327.length co26)).setCell ⟨gb331, 4, none⟩ (.int .i64 t330)) w.heap.size (fun k_ => some k_ ≠ (.slice Ao16 t307.length co16 : Value).ownBlock ∧ some k_ ≠ (.slice Ao19 t316.length co19 : Value).ownBlock) (.slice Ao26 t327.length co26) t327) := ⟨by (with_reducible repeat (first | apply Kd.R_alloc | apply Kd.R_drewN | apply Kd.R_drew)); exact Kd.R_mono (Kd.R_far (p := ⟨gb331, 4, none⟩) (Kd.R_far (p := ⟨gb331, 3, none⟩) (Kd.R_far (p := ⟨gb331, 2, none⟩) (Kd.R_far (p := ⟨gb331, 1, none⟩) (Kd.R_far (p := ⟨gb331, 0, none⟩) (Kd.R_types HO329.out BK331.out (by decide)) (fun _ hk => hk.2) (.int .i64 t322)) (fun _ hk => hk.2) (.string t323)) (fun _ hk => hk.2) (.slice Ao25 t324.length co25)) (fun _ hk => hk.2) (.slice Ao26 t327.length co26)) (fun _ hk => hk.2) (.int .i64 t330)) (fun _ hk => ⟨hk.1.1.2, hk.1.2⟩)⟩
    have n6_ : Aside0 ((((((w21.setCell ⟨gb331, 0, none⟩ (.int .i64 t322)).setCell ⟨gb331, 1, none⟩ (.string t323)).setCell ⟨gb331, 2, none⟩ (.slice Ao25 t324.length co25)).setCell ⟨gb331, 3, none⟩ (.slice Ao26 t327.length co26)).setCell ⟨gb331, 4, none⟩ (.int .i64 t330)).heap[gb320]? = some (.cells #[.int .i64 t302, .string t303, .slice Ao15 t304.length co15, .slice Ao16 t307.length co16, .int .i64 t310] 26 (0, 0))) := ⟨by (with_reducible repeat (first | refine blk_drewN ?_ _ | refine blk_drew ?_ | refine blk_alloc ?_ _)); refine blk_far ?_ NB320_331.out _; (with_reducible repeat (first | refine blk_drewN ?_ _ | refine blk_drew ?_ | refine blk_alloc ?_ _)); refine blk_far ?_ NB320_331.out _; (with_reducible repeat (first | refine blk_drewN ?_ _ | refine blk_drew ?_ | refine blk_alloc ?_ _)); refine blk_far ?_ NB320_331.out _; (with_reducible repeat (first | refine blk_drewN ?_ _ | refine blk_drew ?_ | refine blk_alloc ?_ _)); refine blk_far ?_ NB320_331.out _; (with_reducible repeat (first | refine blk_drewN ?_ _ | refine blk_drew ?_ | refine blk_alloc ?_ _)); refine blk_far ?_ NB320_331.out _; (with_reducible repeat (first | refine blk_drewN ?_ _ | refine blk_drew ?_ | refine blk_alloc ?_ _)); exact BK320.out⟩
    have n7_ : Aside0 ((((((w21.setCell ⟨gb331, 0, none⟩ (.int .i64 t322)).setCell ⟨gb331, 1, none⟩ (.string t323)).setCell ⟨gb331, 2, none⟩ (.slice Ao25 t324.length co25)).setCell ⟨gb331, 3, none⟩ (.slice Ao26 t327.length co26)).setCell ⟨gb331, 4, none⟩ (.int .i64 t330)).heap[gb321]? = some (.cells #[.int .i64 t311, .string t312, .slice Ao18 t313.length co18, .slice Ao19 t316.length co19, .int .i64 t319] 26 (0, 0))) := ⟨by (with_reducible repeat (first | refine blk_drewN ?_ _ | refine blk_drew ?_ | refine blk_alloc ?_ _)); refine blk_far ?_ NB321_331.out _; (with_reducible repeat (first | refine blk_drewN ?_ _ | refine blk_drew ?_ | refine blk_alloc ?_ _)); refine blk_far ?_ NB321_331.out _; (with_reducible repeat (first | refine blk_drewN ?_ _ | refine blk_drew ?_ | refine blk_alloc ?_ _)); refine blk_far ?_ NB321_331.out _; (with_reducible repeat (first | refine blk_drewN ?_ _ | refine blk_drew ?_ | refine blk_alloc ?_ _)); refine blk_far ?_ NB321_331.out _; (with_reducible repeat (first | refine blk_drewN ?_ _ | refine blk_drew ?_ | refine blk_alloc ?_ _)); refine blk_far ?_ NB321_331.out _; (with_reducible repeat (first | refine blk_drewN ?_ _ | refine blk_drew ?_ | refine blk_alloc ?_ _)); exact BK321.out⟩
    have n8_ : Aside0 ((((((w21.setCell ⟨gb331, 0, none⟩ (.int .i64 t322)).setCell ⟨gb331, 1, none⟩ (.string t323)).setCell ⟨gb331, 2, none⟩ (.slice Ao25 t324.length co25)).setCell ⟨gb331, 3, none⟩ (.slice Ao26 t327.length co26)).setCell ⟨gb331, 4, none⟩ (.int .i64 t330)).heap[gb331]? = some (.cells #[.int .i64 t322, .string t323, .slice Ao25 t324.length co25, .slice Ao26 t327.length co26, .int .i64 t330] 26 (0, 0))) := ⟨by (with_reducible repeat (first | refine blk_drewN ?_ _ | refine blk_drew ?_ | refine blk_alloc ?_ _)); refine blk_put (cs := #[.int .i64 t322, .string t323, .slice Ao25 t324.length co25, .slice Ao26 t327.length co26, .int .i64 0]) ?_ 4 _ rfl; (with_reducible repeat (first | refine blk_drewN ?_ _ | refine blk_drew ?_ | refine blk_alloc ?_ _)); refine blk_put (cs := #[.int .i64 t322, .string t323, .slice Ao25 t324.length co25, .slice none 0 0, .int .i64 0]) ?_ 3 _ rfl; (with_reducible repeat (first | refine blk_drewN ?_ _ | refine blk_drew ?_ | refine blk_alloc ?_ _)); refine blk_put (cs := #[.int .i64 t322, .string t323, .slice none 0 0, .slice none 0 0, .int .i64 0]) ?_ 2 _ rfl; (with_reducible repeat (first | refine blk_drewN ?_ _ | refine blk_drew ?_ | refine blk_alloc ?_ _)); refine blk_put (cs := #[.int .i64 t322, .string (⟨#[]⟩ : ByteArray), .slice none 0 0, .slice none 0 0, .int .i64 0]) ?_ 1 _ rfl; (with_reducible repeat (first | refine blk_drewN ?_ _ | refine blk_drew ?_ | refine blk_alloc ?_ _)); refine blk_put (cs := #[.int .i64 0, .string (⟨#[]⟩ : ByteArray), .slice none 0 0, .slice none 0 0, .int .i64 0]) ?_ 0 _ rfl; (with_reducible repeat (first | refine blk_drewN ?_ _ | refine blk_drew ?_ | refine blk_alloc ?_ _)); exact BK331.out⟩
    have n9_ : Aside0 (Below w.heap.size w (((((w21.setCell ⟨gb331, 0, none⟩ (.int .i64 t322)).setCell ⟨gb331, 1, none⟩ (.string t323)).setCell ⟨gb331, 2, none⟩ (.slice Ao25 t324.length co25)).setCell ⟨gb331, 3, none⟩ (.slice Ao26 t327.length co26)).setCell ⟨gb331, 4, none⟩ (.int .i64 t330))) := ⟨(q8_ HB.out GE320.out GE321.out GE331.out)⟩
    (try clear HO306)
    (try clear HO309)
    (try clear HO315)
    (try clear HO318)
    (try clear HO326)
    (try clear HO329)
    (try clear BK320)
    (try clear BK321)
    (try clear BK331)
    (try clear HB)
    generalize (((((w21.setCell ⟨gb331, 0, none⟩ (.int .i64 t322)).setCell ⟨gb331, 1, none⟩ (.string t323)).setCell ⟨gb331, 2, none⟩ (.slice Ao25 t324.length co25)).setCell ⟨gb331, 3, none⟩ (.slice Ao26 t327.length co26)).setCell ⟨gb331, 4, none⟩ (.int .i64 t330)) = w32 at n0_ n1_ n2_ n3_ n4_ n5_ n6_ n7_ n8_ n9_ ⊢
    have HO306 := n0_
    have HO309 := n1_
    have HO315 := n2_
    have HO318 := n3_
    have HO326 := n4_
    have HO329 := n5_
    have BK320 := n6_
    have BK321 := n7_
    have BK331 := n8_
    have HB := n9_
    clear n0_ n1_ n2_ n3_ n4_ n5_ n6_ n7_ n8_ n9_
    have n0_ := Aside0.mk (Kd.R_drew HO306.out)
    have n1_ := Aside0.mk (Kd.R_drew HO309.out)
    have n2_ := Aside0.mk (Kd.R_drew HO315.out)
    have n3_ := Aside0.mk (Kd.R_drew HO318.out)
    have n4_ := Aside0.mk (Kd.R_drew HO326.out)
    have n5_ := Aside0.mk (Kd.R_drew HO329.out)
    have n6_ := Aside0.mk (blk_drew BK320.out)
    have n7_ := Aside0.mk (blk_drew BK321.out)
    have n8_ := Aside0.mk (blk_drew BK331.out)
    have n9_ := Aside0.mk (below_drew1 HB.out)
    clear HO306
    clear HO309
    clear HO315
    clear HO318
    clear HO326
    clear HO329
    clear BK320
    clear BK321
    clear BK331
    clear HB
    have HO306 := n0_
    have HO309 := n1_
    have HO315 := n2_
    have HO318 := n3_
    have HO326 := n4_
    have HO329 := n5_
    have BK320 := n6_
    have BK321 := n7_
    have BK331 := n8_
    have HB := n9_
    clear n0_ n1_ n2_ n3_ n4_ n5_ n6_ n7_ n8_ n9_
    refine start_ (n := 36) (S := fun w' => w'.cell? ⟨gb320, 0, none⟩ = some (.int .i64 t302) ∧ w'.cell? ⟨gb320, 1, none⟩ = some (.string t303) ∧ w'.cell? ⟨gb320, 2, none⟩ = some (.slice Ao15 t304.length co15) ∧ w'.cell? ⟨gb320, 3, none⟩ = some (.slice Ao16 t307.length co16) ∧ w'.cell? ⟨gb320, 4, none⟩ = some (.int .i64 t310) ∧ w'.cell? ⟨gb321, 0, none⟩ = some (.int .i64 t311) ∧ w'.cell? ⟨gb321, 1, none⟩ = some (.string t312) ∧ w'.cell? ⟨gb321, 2, none⟩ = some (.slice Ao18 t313.length co18) ∧ w'.cell? ⟨gb321, 3, none⟩ = some (.slice Ao19 t316.length co19) ∧ w'.cell? ⟨gb321, 4, none⟩ = some (.int .i64 t319)) (ds := []) (ml_ 36 0) (by kernel_rfl) rfl rfl ⟨(blk_cell BK320.out 0).trans rfl, (blk_cell BK320.out 1).trans rfl, (blk_cell BK320.out 2).trans rfl, (blk_cell BK320.out 3).trans rfl, (blk_cell BK320.out 4).trans rfl, (blk_cell BK321.out 0).trans rfl, (blk_cell BK321.out 1).trans rfl, (blk_cell BK321.out 2).trans rfl, (blk_cell BK321.out 3).trans rfl, (blk_cell BK321.out 4).trans rfl⟩ (fun hHeld => ?_); refine with_tabW caravanlaw5_ItemMade.tab3 caravanlaw5_ItemMade.bits3 (fun HT_ HW_ => ?_)
    generalize w32.drew = w33 at HO306 HO309 HO315 HO318 HO326 HO329 BK320 BK321 BK331 HB hHeld ⊢
    refine t10_ 0 22 (ml_ 36 1) rfl rfl HT_.out HW_.out hHeld ?_
    refine one_ (i := 1) (N := some 23) (ml_ 36 3) rfl rfl (one_of HT_.out (by kernel_rfl)) (by decide) (fun K hK => ?_)
    refine goes_ Try.func9 (by kernel_rfl) rfl #[.agg #[.int .i64 t302, .string t303, .slice Ao15 t304.length co15, .slice Ao16 t307.length co16, .int .i64 t310]] (by rfl) rfl rfl qM_ ?_
    with_reducible refine (item_May.calls t302 t303 _ _ t304 _ _ t307 t310 true _ ?side1 ?side2 ?side3 ?side4 A27.out).mono ?_
    (case side1 => exact qC_ ((Kd.R_reads' HO306.out).2.2))
    (case side2 => exact (Kd.R_reads' HO306.out).2.1)
    (case side3 => exact qC_ ((Kd.R_reads' HO309.out).2.2))
    (case side4 => exact (Kd.R_reads' HO309.out).2.1)
    rintro e w34 ⟨rfl, hb⟩
    refine ⟨_, rfl, ?_⟩
    have n0_ := Aside0.mk (Kd.R_below (q1_ HO306.out) hb)
    have n1_ := Aside0.mk (Kd.R_below (q1_ HO309.out) hb)
    have n2_ := Aside0.mk (Kd.R_below (q1_ HO315.out) hb)
    have n3_ := Aside0.mk (Kd.R_below (q1_ HO318.out) hb)
    have n4_ := Aside0.mk (Kd.R_below (q1_ HO326.out) hb)
    have n5_ := Aside0.mk (Kd.R_below (q1_ HO329.out) hb)
    have n6_ := Aside0.mk (blk_below (g := gb320) (o := .cells #[.int .i64 t302, .string t303, .slice Ao15 t304.length co15, .slice Ao16 t307.length co16, .int .i64 t310] 26 (0, 0)) (q3_ BK320.out) hb)
    have n7_ := Aside0.mk (blk_below (g := gb321) (o := .cells #[.int .i64 t311, .string t312, .slice Ao18 t313.length co18, .slice Ao19 t316.length co19, .int .i64 t319] 26 (0, 0)) (q3_ BK321.out) hb)
    have n8_ := Aside0.mk (blk_below (g := gb331) (o := .cells #[.int .i64 t322, .string t323, .slice Ao25 t324.length co25, .slice Ao26 t327.length co26, .int .i64 t330] 26 (0, 0)) (q3_ BK331.out) hb)
    have n9_ := Aside0.mk (below_step (q8_ HB.out GE320.out GE321.out GE331.out) hb)
    clear HO306
    clear HO309
    clear HO315
    clear HO318
    clear HO326
    clear HO329
    clear BK320
    clear BK321
    clear BK331
    clear HB
    have HO306 := n0_
    have HO309 := n1_
    have HO315 := n2_
    have HO318 := n3_
    have HO326 := n4_
    have HO329 := n5_
    have BK320 := n6_
    have BK321 := n7_
    have BK331 := n8_
    have HB := n9_
    clear n0_ n1_ n2_ n3_ n4_ n5_ n6_ n7_ n8_ n9_
    (try clear hb)
    (try clear hb2)
    (try clear hk)
    (try clear hi)
    refine hK.out _ _ ⟨(blk_cell BK320.out 0).trans rfl, (blk_cell BK320.out 1).trans rfl, (blk_cell BK320.out 2).trans rfl, (blk_cell BK320.out 3).trans rfl, (blk_cell BK320.out 4).trans rfl, (blk_cell BK321.out 0).trans rfl, (blk_cell BK321.out 1).trans rfl, (blk_cell BK321.out 2).trans rfl, (blk_cell BK321.out 3).trans rfl, (blk_cell BK321.out 4).trans rfl⟩ (fun hHeld => ?_)
    clear hK K
    refine nA_ 23 ?_
    refine pA_ 2 24 (ml_ 36 7) rfl rfl HT_.out ?_
    refine pA_ 3 25 (ml_ 36 15) rfl rfl HT_.out ?_
    refine t10_ 4 26 (ml_ 36 31) rfl rfl HT_.out HW_.out hHeld ?_
    refine t10_ 5 27 (ml_ 36 63) rfl rfl HT_.out HW_.out hHeld ?_
    refine t10_ 7 29 (ml_ 36 191) rfl rfl HT_.out HW_.out hHeld ?_
    refine t10_ 8 30 (ml_ 36 447) rfl rfl HT_.out HW_.out hHeld ?_
    refine one_ (i := 6) (N := some 28) (ml_ 36 511) rfl rfl (one_of HT_.out (by kernel_rfl)) (by decide) (fun K hK => ?_)
    refine goes_ Try.func17 (by kernel_rfl) rfl #[.agg #[.int .i64 t302, .string t303, .slice Ao15 t304.length co15, .slice Ao16 t307.length co16, .int .i64 t310], .agg #[.int .i64 t311, .string t312, .slice Ao18 t313.length co18, .slice Ao19 t316.length co19, .int .i64 t319]] (by rfl) rfl rfl qM_ ?_
    with_reducible refine (item_Same.calls k t302 t303 _ _ t304 _ _ t307 t310 t311 t312 _ _ t313 _ _ t316 t319 t333 _ ?side1 ?side2 ?side3 ?side4 ?side5 ?side6 ?side7 ?side8 A29.out).mono ?_
    (case side1 => exact qC_ ((Kd.R_reads' HO306.out).2.2))
    (case side2 => exact (Kd.R_reads' HO306.out).2.1)
    (case side3 => exact qC_ ((Kd.R_reads' HO309.out).2.2))
    (case side4 => exact (Kd.R_reads' HO309.out).2.1)
    (case side5 => exact qC_ ((Kd.R_reads' HO315.out).2.2))
    (case side6 => exact (Kd.R_reads' HO315.out).2.1)
    (case side7 => exact qC_ ((Kd.R_reads' HO318.out).2.2))
    (case side8 => exact (Kd.R_reads' HO318.out).2.1)
    rintro e w35 ⟨rfl, hb⟩
    refine ⟨_, rfl, ?_⟩
    have n0_ := Aside0.mk (Kd.R_below (q1_ HO306.out) hb)
    have n1_ := Aside0.mk (Kd.R_below (q1_ HO309.out) hb)
    have n2_ := Aside0.mk (Kd.R_below (q1_ HO315.out) hb)
    have n3_ := Aside0.mk (Kd.R_below (q1_ HO318.out) hb)
    have n4_ := Aside0.mk (Kd.R_below (q1_ HO326.out) hb)
    have n5_ := Aside0.mk (Kd.R_below (q1_ HO329.out) hb)
    have n6_ := Aside0.mk (blk_below (g := gb320) (o := .cells #[.int .i64 t302, .string t303, .slice Ao15 t304.length co15, .slice Ao16 t307.length co16, .int .i64 t310] 26 (0, 0)) (q3_ BK320.out) hb)
    have n7_ := Aside0.mk (blk_below (g := gb321) (o := .cells #[.int .i64 t311, .string t312, .slice Ao18 t313.length co18, .slice Ao19 t316.length co19, .int .i64 t319] 26 (0, 0)) (q3_ BK321.out) hb)
    have n8_ := Aside0.mk (blk_below (g := gb331) (o := .cells #[.int .i64 t322, .string t323, .slice Ao25 t324.length co25, .slice Ao26 t327.length co26, .int .i64 t330] 26 (0, 0)) (q3_ BK331.out) hb)
    have n9_ := Aside0.mk (below_step (q8_ HB.out GE320.out GE321.out GE331.out) hb)
    clear HO306
    clear HO309
    clear HO315
    clear HO318
    clear HO326
    clear HO329
    clear BK320
    clear BK321
    clear BK331
    clear HB
    have HO306 := n0_
    have HO309 := n1_
    have HO315 := n2_
    have HO318 := n3_
    have HO326 := n4_
    have HO329 := n5_
    have BK320 := n6_
    have BK321 := n7_
    have BK331 := n8_
    have HB := n9_
    clear n0_ n1_ n2_ n3_ n4_ n5_ n6_ n7_ n8_ n9_
    (try clear hb)
    (try clear hb2)
    (try clear hk)
    (try clear hi)
    refine hK.out _ _ ⟨(blk_cell BK320.out 0).trans rfl, (blk_cell BK320.out 1).trans rfl, (blk_cell BK320.out 2).trans rfl, (blk_cell BK320.out 3).trans rfl, (blk_cell BK320.out 4).trans rfl, (blk_cell BK321.out 0).trans rfl, (blk_cell BK321.out 1).trans rfl, (blk_cell BK321.out 2).trans rfl, (blk_cell BK321.out 3).trans rfl, (blk_cell BK321.out 4).trans rfl⟩ (fun hHeld => ?_)
    clear hK K
    refine nA_ 28 ?_
    refine one_ (i := 9) (N := some 31) (ml_ 36 1023) rfl rfl (one_of HT_.out (by kernel_rfl)) (by decide) (fun K hK => ?_)
    refine goes_ Try.func18 (by kernel_rfl) rfl #[.agg #[.int .i64 t302, .string t303, .slice Ao15 t304.length co15, .slice Ao16 t307.length co16, .int .i64 t310], .agg #[.int .i64 t311, .string t312, .slice Ao18 t313.length co18, .slice Ao19 t316.length co19, .int .i64 t319]] (by rfl) rfl rfl qM_ ?_
    with_reducible refine (caravanref5_SameItem.calls k t302 t303 _ _ t304 _ _ t307 t310 t311 t312 _ _ t313 _ _ t316 t319 t334 _ ?side1 ?side2 ?side3 ?side4 ?side5 ?side6 ?side7 ?side8 A30.out).mono ?_
    (case side1 => exact qC_ ((Kd.R_reads' HO306.out).2.2))
    (case side2 => exact (Kd.R_reads' HO306.out).2.1)
    (case side3 => exact qC_ ((Kd.R_reads' HO309.out).2.2))
    (case side4 => exact (Kd.R_reads' HO309.out).2.1)
    (case side5 => exact qC_ ((Kd.R_reads' HO315.out).2.2))
    (case side6 => exact (Kd.R_reads' HO315.out).2.1)
    (case side7 => exact qC_ ((Kd.R_reads' HO318.out).2.2))
    (case side8 => exact (Kd.R_reads' HO318.out).2.1)
    rintro e w36 ⟨rfl, hb⟩
    refine ⟨_, rfl, ?_⟩
    have n0_ := Aside0.mk (Kd.R_below (q1_ HO306.out) hb)
    have n1_ := Aside0.mk (Kd.R_below (q1_ HO309.out) hb)
    have n2_ := Aside0.mk (Kd.R_below (q1_ HO315.out) hb)
    have n3_ := Aside0.mk (Kd.R_below (q1_ HO318.out) hb)
    have n4_ := Aside0.mk (Kd.R_below (q1_ HO326.out) hb)
    have n5_ := Aside0.mk (Kd.R_below (q1_ HO329.out) hb)
    have n6_ := Aside0.mk (blk_below (g := gb320) (o := .cells #[.int .i64 t302, .string t303, .slice Ao15 t304.length co15, .slice Ao16 t307.length co16, .int .i64 t310] 26 (0, 0)) (q3_ BK320.out) hb)
    have n7_ := Aside0.mk (blk_below (g := gb321) (o := .cells #[.int .i64 t311, .string t312, .slice Ao18 t313.length co18, .slice Ao19 t316.length co19, .int .i64 t319] 26 (0, 0)) (q3_ BK321.out) hb)
    have n8_ := Aside0.mk (blk_below (g := gb331) (o := .cells #[.int .i64 t322, .string t323, .slice Ao25 t324.length co25, .slice Ao26 t327.length co26, .int .i64 t330] 26 (0, 0)) (q3_ BK331.out) hb)
    have n9_ := Aside0.mk (below_step (q8_ HB.out GE320.out GE321.out GE331.out) hb)
    clear HO306
    clear HO309
    clear HO315
    clear HO318
    clear HO326
    clear HO329
    clear BK320
    clear BK321
    clear BK331
    clear HB
    have HO306 := n0_
    have HO309 := n1_
    have HO315 := n2_
    have HO318 := n3_
    have HO326 := n4_
    have HO329 := n5_
    have BK320 := n6_
    have BK321 := n7_
    have BK331 := n8_
    have HB := n9_
    clear n0_ n1_ n2_ n3_ n4_ n5_ n6_ n7_ n8_ n9_
    (try clear hb)
    (try clear hb2)
    (try clear hk)
    (try clear hi)
    refine hK.out _ _ ⟨(blk_cell BK320.out 0).trans rfl, (blk_cell BK320.out 1).trans rfl, (blk_cell BK320.out 2).trans rfl, (blk_cell BK320.out 3).trans rfl, (blk_cell BK320.out 4).trans rfl, (blk_cell BK321.out 0).trans rfl, (blk_cell BK321.out 1).trans rfl, (blk_cell BK321.out 2).trans rfl, (blk_cell BK321.out 3).trans rfl, (blk_cell BK321.out 4).trans rfl⟩ (fun hHeld => ?_)
    clear hK K
    refine nA_ 31 ?_
    refine pA_ 10 32 (ml_ 36 2047) rfl rfl HT_.out ?_
    refine pA_ 11 33 (ml_ 36 4095) rfl rfl HT_.out ?_
    refine pA_ 12 34 (ml_ 36 8191) rfl rfl HT_.out ?_
    refine pU_ 13 35 (ml_ 36 16383) rfl rfl HT_.out ?_
    refine pU_ 14 36 (ml_ 36 32767) rfl rfl HT_.out ?_
    refine pU_ 15 37 (ml_ 36 65535) rfl rfl HT_.out ?_
    refine pU_ 16 38 (ml_ 36 131071) rfl rfl HT_.out ?_
    refine pU_ 17 39 (ml_ 36 262143) rfl rfl HT_.out ?_
    refine pA_ 18 40 (ml_ 36 524287) rfl rfl HT_.out ?_
    refine pA_ 19 41 (ml_ 36 1048575) rfl rfl HT_.out ?_
    refine pU_ 20 42 (ml_ 36 2097151) rfl rfl HT_.out ?_
    refine pU_ 21 43 (ml_ 36 4194303) rfl rfl HT_.out ?_
    refine pU_ 22 44 (ml_ 36 8388607) rfl rfl HT_.out ?_
    refine pU_ 23 45 (ml_ 36 16777215) rfl rfl HT_.out ?_
    refine pU_ 24 46 (ml_ 36 33554431) rfl rfl HT_.out ?_
    refine pU_ 25 47 (ml_ 36 67108863) rfl rfl HT_.out ?_
    refine pU_ 26 48 (ml_ 36 134217727) rfl rfl HT_.out ?_
    refine pU_ 27 49 (ml_ 36 268435455) rfl rfl HT_.out ?_
    refine pU_ 28 50 (ml_ 36 536870911) rfl rfl HT_.out ?_
    refine pA_ 29 51 (ml_ 36 1073741823) rfl rfl HT_.out ?_
    refine pA_ 30 52 (ml_ 36 2147483647) rfl rfl HT_.out ?_
    refine pU_ 31 53 (ml_ 36 4294967295) rfl rfl HT_.out ?_
    refine pU_ 32 54 (ml_ 36 8589934591) rfl rfl HT_.out ?_
    refine pU_ 33 55 (ml_ 36 17179869183) rfl rfl HT_.out ?_
    refine pU_ 34 56 (ml_ 36 34359738367) rfl rfl HT_.out ?_
    refine pA_ 35 57 (ml_ 36 68719476735) rfl rfl HT_.out ?_
    refine done_ (done_of HT_.out (by kernel_rfl)) ?_
    try go_wp2
    go_meet
    case rel => exact ⟨_, (true), (by first | rfl | (simp; done) | (simp [*]; done)), H', ⟨by first | omega | exact Nat.le_refl _⟩, ⟨by (with_reducible repeat (first | apply Kd.R_alloc | apply Kd.R_drewN | apply Kd.R_drew)); exact HO306.out⟩, ⟨by (with_reducible repeat (first | apply Kd.R_alloc | apply Kd.R_drewN | apply Kd.R_drew)); exact HO309.out⟩, ⟨by (with_reducible repeat (first | apply Kd.R_alloc | apply Kd.R_drewN | apply Kd.R_drew)); exact HO315.out⟩, ⟨by (with_reducible repeat (first | apply Kd.R_alloc | apply Kd.R_drewN | apply Kd.R_drew)); exact HO318.out⟩, ⟨by (with_reducible repeat (first | apply Kd.R_alloc | apply Kd.R_drewN | apply Kd.R_drew)); exact HO326.out⟩, ⟨by (with_reducible repeat (first | apply Kd.R_alloc | apply Kd.R_drewN | apply Kd.R_drew)); exact HO329.out⟩, ⟨by (with_reducible repeat (first | refine blk_drewN ?_ _ | refine blk_drew ?_ | refine blk_alloc ?_ _)); exact BK320.out⟩, ⟨by (with_reducible repeat (first | refine blk_drewN ?_ _ | refine blk_drew ?_ | refine blk_alloc ?_ _)); exact BK321.out⟩, ⟨by (with_reducible repeat (first | refine blk_drewN ?_ _ | refine blk_drew ?_ | refine blk_alloc ?_ _)); exact BK331.out⟩, ⟨(q8_ HB.out GE320.out GE321.out GE331.out)⟩⟩
   ·rw [if_neg c31] at H
    have c31b0 : (t333 != t334) = false := by simpa using c31
    (try (have c31b1 : decide (t333 = t334) = true := by simpa using c31))
    (try (have c31b2 : (t333 == t334) = true := by simpa using c31))
    clear c31
    (first | rw [c31b0] | (simp only [i64_w, i32_w]; rw [c31b0]) | skip)
    replace H := Option.bind_eq_some_iff.mp H
    obtain ⟨t335, A370, H⟩ := H
    replace H : ((caravanref5_Type.f t302 t303 t304 t307 t310).bind fun t336 => (if t335.toList = t336.toList then ((item_Alive.f t302 t303 t304 t307 t310 (wrap64 (a3))).bind fun t337 => ((caravanref5_Alive.f t302 t303 t304 t307 t310 (wrap64 (a3))).bind fun t338 => (if (t337 != t338) = true then (caravanlaw5_ItemMade.j0 k l0 a2 true t302 t303 t304 t307 t310 t322 t323 t324 t327 t330) else ((caravanref5_SameItem.f k t322 t323 t324 t327 t330 t302 t303 t304 t307 t310).bind fun t339 => (caravanlaw5_ItemMade.j0 k l0 a2 (!t339) t302 t303 t304 t307 t310 t322 t323 t324 t327 t330))))) else (caravanlaw5_ItemMade.j0 k l0 a2 true t302 t303 t304 t307 t310 t322 t323 t324 t327 t330))) = some r := H
    have A37 := Aside0.mk A370
    clear A370
    replace H := Option.bind_eq_some_iff.mp H
    obtain ⟨t336, A380, H⟩ := H
    replace H : (if t335.toList = t336.toList then ((item_Alive.f t302 t303 t304 t307 t310 (wrap64 (a3))).bind fun t337 => ((caravanref5_Alive.f t302 t303 t304 t307 t310 (wrap64 (a3))).bind fun t338 => (if (t337 != t338) = true then (caravanlaw5_ItemMade.j0 k l0 a2 true t302 t303 t304 t307 t310 t322 t323 t324 t327 t330) else ((caravanref5_SameItem.f k t322 t323 t324 t327 t330 t302 t303 t304 t307 t310).bind fun t339 => (caravanlaw5_ItemMade.j0 k l0 a2 (!t339) t302 t303 t304 t307 t310 t322 t323 t324 t327 t330))))) else (caravanlaw5_ItemMade.j0 k l0 a2 true t302 t303 t304 t307 t310 t322 t323 t324 t327 t330)) = some r := H
    have A38 := Aside0.mk A380
    clear A380
    by_cases c39 : t335.toList = t336.toList
    ·rw [if_pos c39] at H
     have c39b0 : (t335.toList == t336.toList) = true := beq_iff_eq.mpr c39
     have c39b1 : (t335.toList != t336.toList) = false := bne_eq_false_iff_eq.mpr c39
     clear c39
     replace H := Option.bind_eq_some_iff.mp H
     obtain ⟨t337, A400, H⟩ := H
     replace H : ((caravanref5_Alive.f t302 t303 t304 t307 t310 (wrap64 (a3))).bind fun t338 => (if (t337 != t338) = true then (caravanlaw5_ItemMade.j0 k l0 a2 true t302 t303 t304 t307 t310 t322 t323 t324 t327 t330) else ((caravanref5_SameItem.f k t322 t323 t324 t327 t330 t302 t303 t304 t307 t310).bind fun t339 => (caravanlaw5_ItemMade.j0 k l0 a2 (!t339) t302 t303 t304 t307 t310 t322 t323 t324 t327 t330)))) = some r := H
     have A40 := Aside0.mk A400
     clear A400
     replace H := Option.bind_eq_some_iff.mp H
     obtain ⟨t338, A410, H⟩ := H
     replace H : (if (t337 != t338) = true then (caravanlaw5_ItemMade.j0 k l0 a2 true t302 t303 t304 t307 t310 t322 t323 t324 t327 t330) else ((caravanref5_SameItem.f k t322 t323 t324 t327 t330 t302 t303 t304 t307 t310).bind fun t339 => (caravanlaw5_ItemMade.j0 k l0 a2 (!t339) t302 t303 t304 t307 t310 t322 t323 t324 t327 t330))) = some r := H
     have A41 := Aside0.mk A410
     clear A410
     by_cases c42 : (t337 != t338) = true
     ·rw [if_pos c42] at H
      have c42b0 : (t337 != t338) = true := c42
      (try (have c42b1 : decide (t337 = t338) = false := by simpa using c42))
      (try (have c42b2 : (t337 == t338) = false := by simpa using c42))
      (try (have c42b3 : ¬ (t337 = t338) := by simpa using c42))
      clear c42
      have H' := Aside0.mk H
      clear H
      try go_wp2
      have n0_ : Aside0 (Kd.R k29 29 (((((w21.setCell ⟨gb331, 0, none⟩ (.int .i64 t322)).setCell ⟨gb331, 1, none⟩ (.string t323)).setCell ⟨gb331, 2, none⟩ (.slice Ao25 t324.length co25)).setCell ⟨gb331, 3, none⟩ (.slice Ao26 t327.length co26)).setCell ⟨gb331, 4, none⟩ (.int .i64 t330)) w.heap.size (fun k_ => some k_ ≠ (.slice Ao18 t313.length co18 : Value).ownBlock ∧ some k_ ≠ (.slice Ao25 t324.length co25 : Value).ownBlock) (.slice Ao15 t304.length co15) t304) := ⟨by (with_reducible repeat (first | apply Kd.R_alloc | apply Kd.R_drewN | apply Kd.R_drew)); exact Kd.R_mono (Kd.R_far (p := ⟨gb331, 4, none⟩) (Kd.R_far (p := ⟨gb331, 3, none⟩) (Kd.R_far (p := ⟨gb331, 2, none⟩) (Kd.R_far (p := ⟨gb331, 1, none⟩) (Kd.R_far (p := ⟨gb331, 0, none⟩) (Kd.R_types HO306.out BK331.out (by decide)) (fun _ hk => hk.2) (.int .i64 t322)) (fun _ hk => hk.2) (.string t323)) (fun _ hk => hk.2) (.slice Ao25 t324.length co25)) (fun _ hk => hk.2) (.slice Ao26 t327.length co26)) (fun _ hk => hk.2) (.int .i64 t330)) (fun _ hk => ⟨hk.1.1.2, hk.1.2⟩)⟩
      have n1_ : Aside0 (Kd.R Kd.string 9 (((((w21.setCell ⟨gb331, 0, none⟩ (.int .i64 t322)).setCell ⟨gb331, 1, none⟩ (.string t323)).setCell ⟨gb331, 2, none⟩ (.slice Ao25 t324.length co25)).setCell ⟨gb331, 3, none⟩ (.slice Ao26 t327.length co26)).setCell ⟨gb331, 4, none⟩ (.int .i64 t330)) w.heap.size (fun k_ => some k_ ≠ (.slice Ao19 t316.length co19 : Value).ownBlock ∧ some k_ ≠ (.slice Ao26 t327.length co26 : Value).ownBlock) (.slice Ao16 t307.length co16) t307) := ⟨by (with_reducible repeat (first | apply Kd.R_alloc | apply Kd.R_drewN | apply Kd.R_drew)); exact Kd.R_mono (Kd.R_far (p := ⟨gb331, 4, none⟩) (Kd.R_far (p := ⟨gb331, 3, none⟩) (Kd.R_far (p := ⟨gb331, 2, none⟩) (Kd.R_far (p := ⟨gb331, 1, none⟩) (Kd.R_far (p := ⟨gb331, 0, none⟩) (Kd.R_types HO309.out BK331.out (by decide)) (fun _ hk => hk.2) (.int .i64 t322)) (fun _ hk => hk.2) (.string t323)) (fun _ hk => hk.2) (.slice Ao25 t324.length co25)) (fun _ hk => hk.2) (.slice Ao26 t327.length co26)) (fun _ hk => hk.2) (.int .i64 t330)) (fun _ hk => ⟨hk.1.1.2, hk.1.2⟩)⟩
      have n2_ : Aside0 (Kd.R k29 29 (((((w21.setCell ⟨gb331, 0, none⟩ (.int .i64 t322)).setCell ⟨gb331, 1, none⟩ (.string t323)).setCell ⟨gb331, 2, none⟩ (.slice Ao25 t324.length co25)).setCell ⟨gb331, 3, none⟩ (.slice Ao26 t327.length co26)).setCell ⟨gb331, 4, none⟩ (.int .i64 t330)) w.heap.size (fun k_ => some k_ ≠ (.slice Ao15 t304.length co15 : Value).ownBlock ∧ some k_ ≠ (.slice Ao25 t324.length co25 : Value).ownBlock) (.slice Ao18 t313.length co18) t313) := ⟨by (with_reducible repeat (first | apply Kd.R_alloc | apply Kd.R_drewN | apply Kd.R_drew)); exact Kd.R_mono (Kd.R_far (p := ⟨gb331, 4, none⟩) (Kd.R_far (p := ⟨gb331, 3, none⟩) (Kd.R_far (p := ⟨gb331, 2, none⟩) (Kd.R_far (p := ⟨gb331, 1, none⟩) (Kd.R_far (p := ⟨gb331, 0, none⟩) (Kd.R_types HO315.out BK331.out (by decide)) (fun _ hk => hk.2) (.int .i64 t322)) (fun _ hk => hk.2) (.string t323)) (fun _ hk => hk.2) (.slice Ao25 t324.length co25)) (fun _ hk => hk.2) (.slice Ao26 t327.length co26)) (fun _ hk => hk.2) (.int .i64 t330)) (fun _ hk => ⟨hk.1.1.2, hk.1.2⟩)⟩
      have n3_ : Aside0 (Kd.R Kd.string 9 (((((w21.setCell ⟨gb331, 0, none⟩ (.int .i64 t322)).setCell ⟨gb331, 1, none⟩ (.string t323)).setCell ⟨gb331, 2, none⟩ (.slice Ao25 t324.length co25)).setCell ⟨gb331, 3, none⟩ (.slice Ao26 t327.length co26)).setCell ⟨gb331, 4, none⟩ (.int .i64 t330)) w.heap.size (fun k_ => some k_ ≠ (.slice Ao16 t307.length co16 : Value).ownBlock ∧ some k_ ≠ (.slice Ao26 t327.length co26 : Value).ownBlock) (.slice Ao19 t316.length co19) t316) := ⟨by (with_reducible repeat (first | apply Kd.R_alloc | apply Kd.R_drewN | apply Kd.R_drew)); exact Kd.R_mono (Kd.R_far (p := ⟨gb331, 4, none⟩) (Kd.R_far (p := ⟨gb331, 3, none⟩) (Kd.R_far (p := ⟨gb331, 2, none⟩) (Kd.R_far (p := ⟨gb331, 1, none⟩) (Kd.R_far (p := ⟨gb331, 0, none⟩) (Kd.R_types HO318.out BK331.out (by decide)) (fun _ hk => hk.2) (.int .i64 t322)) (fun _ hk => hk.2) (.string t323)) (fun _ hk => hk.2) (.slice Ao25 t324.length co25)) (fun _ hk => hk.2) (.slice Ao26 t327.length co26)) (fun _ hk => hk.2) (.int .i64 t330)) (fun _ hk => ⟨hk.1.1.2, hk.1.2⟩)⟩
      have n4_ : Aside0 (Kd.R k29 29 (((((w21.setCell ⟨gb331, 0, none⟩ (.int .i64 t322)).setCell ⟨gb331, 1, none⟩ (.string t323)).setCell ⟨gb331, 2, none⟩ (.slice Ao25 t324.length co25)).setCell ⟨gb331, 3, none⟩ (.slice Ao26 t327.length co26)).setCell ⟨gb331, 4, none⟩ (.int .i64 t330)) w.heap.size (fun k_ => some k_ ≠ (.slice Ao15 t304.length co15 : Value).ownBlock ∧ some k_ ≠ (.slice Ao18 t313.length co18 : Value).ownBlock) (.slice Ao25 t324.length co25) t324) := ⟨by (with_reducible repeat (first | apply Kd.R_alloc | apply Kd.R_drewN | apply Kd.R_drew)); exact Kd.R_mono (Kd.R_far (p := ⟨gb331, 4, none⟩) (Kd.R_far (p := ⟨gb331, 3, none⟩) (Kd.R_far (p := ⟨gb331, 2, none⟩) (Kd.R_far (p := ⟨gb331, 1, none⟩) (Kd.R_far (p := ⟨gb331, 0, none⟩) (Kd.R_types HO326.out BK331.out (by decide)) (fun _ hk => hk.2) (.int .i64 t322)) (fun _ hk => hk.2) (.string t323)) (fun _ hk => hk.2) (.slice Ao25 t324.length co25)) (fun _ hk => hk.2) (.slice Ao26 t327.length co26)) (fun _ hk => hk.2) (.int .i64 t330)) (fun _ hk => ⟨hk.1.1.2, hk.1.2⟩)⟩
      have n5_ : Aside0 (Kd.R Kd.string 9 (((((w21.setCell ⟨gb331, 0, none⟩ (.int .i64 t322)).setCell ⟨gb331, 1, none⟩ (.string t323)).setCell ⟨gb331, 2, none⟩ (.slice Ao25 t324.length co25)).setCell ⟨gb331, 3, none⟩ (.slice Ao26 t327.length co26)).setCell ⟨gb331, 4, none⟩ (.int .i64 t330)) w.heap.size (fun k_ => some k_ ≠ (.slice Ao16 t307.length co16 : Value).ownBlock ∧ some k_ ≠ (.slice Ao19 t316.length co19 : Value).ownBlock) (.slice Ao26 t327.length co26) t327) := ⟨by (with_reducible repeat (first | apply Kd.R_alloc | apply Kd.R_drewN | apply Kd.R_drew)); exact Kd.R_mono (Kd.R_far (p := ⟨gb331, 4, none⟩) (Kd.R_far (p := ⟨gb331, 3, none⟩) (Kd.R_far (p := ⟨gb331, 2, none⟩) (Kd.R_far (p := ⟨gb331, 1, none⟩) (Kd.R_far (p := ⟨gb331, 0, none⟩) (Kd.R_types HO329.out BK331.out (by decide)) (fun _ hk => hk.2) (.int .i64 t322)) (fun _ hk => hk.2) (.string t323)) (fun _ hk => hk.2) (.slice Ao25 t324.length co25)) (fun _ hk => hk.2) (.slice Ao26 t327.length co26)) (fun _ hk => hk.2) (.int .i64 t330)) (fun _ hk => ⟨hk.1.1.2, hk.1.2⟩)⟩
      have n6_ : Aside0 ((((((w21.setCell ⟨gb331, 0, none⟩ (.int .i64 t322)).setCell ⟨gb331, 1, none⟩ (.string t323)).setCell ⟨gb331, 2, none⟩ (.slice Ao25 t324.length co25)).setCell ⟨gb331, 3, none⟩ (.slice Ao26 t327.length co26)).setCell ⟨gb331, 4, none⟩ (.int .i64 t330)).heap[gb320]? = some (.cells #[.int .i64 t302, .string t303, .slice Ao15 t304.length co15, .slice Ao16 t307.length co16, .int .i64 t310] 26 (0, 0))) := ⟨by (with_reducible repeat (first | refine blk_drewN ?_ _ | refine blk_drew ?_ | refine blk_alloc ?_ _)); refine blk_far ?_ NB320_331.out _; (with_reducible repeat (first | refine blk_drewN ?_ _ | refine blk_drew ?_ | refine blk_alloc ?_ _)); refine blk_far ?_ NB320_331.out _; (with_reducible repeat (first | refine blk_drewN ?_ _ | refine blk_drew ?_ | refine blk_alloc ?_ _)); refine blk_far ?_ NB320_331.out _; (with_reducible repeat (first | refine blk_drewN ?_ _ | refine blk_drew ?_ | refine blk_alloc ?_ _)); refine blk_far ?_ NB320_331.out _; (with_reducible repeat (first | refine blk_drewN ?_ _ | refine blk_drew ?_ | refine blk_alloc ?_ _)); refine blk_far ?_ NB320_331.out _; (with_reducible repeat (first | refine blk_drewN ?_ _ | refine blk_drew ?_ | refine blk_alloc ?_ _)); exact BK320.out⟩
      have n7_ : Aside0 ((((((w21.setCell ⟨gb331, 0, none⟩ (.int .i64 t322)).setCell ⟨gb331, 1, none⟩ (.string t323)).setCell ⟨gb331, 2, none⟩ (.slice Ao25 t324.length co25)).setCell ⟨gb331, 3, none⟩ (.slice Ao26 t327.length co26)).setCell ⟨gb331, 4, none⟩ (.int .i64 t330)).heap[gb321]? = some (.cells #[.int .i64 t311, .string t312, .slice Ao18 t313.length co18, .slice Ao19 t316.length co19, .int .i64 t319] 26 (0, 0))) := ⟨by (with_reducible repeat (first | refine blk_drewN ?_ _ | refine blk_drew ?_ | refine blk_alloc ?_ _)); refine blk_far ?_ NB321_331.out _; (with_reducible repeat (first | refine blk_drewN ?_ _ | refine blk_drew ?_ | refine blk_alloc ?_ _)); refine blk_far ?_ NB321_331.out _; (with_reducible repeat (first | refine blk_drewN ?_ _ | refine blk_drew ?_ | refine blk_alloc ?_ _)); refine blk_far ?_ NB321_331.out _; (with_reducible repeat (first | refine blk_drewN ?_ _ | refine blk_drew ?_ | refine blk_alloc ?_ _)); refine blk_far ?_ NB321_331.out _; (with_reducible repeat (first | refine blk_drewN ?_ _ | refine blk_drew ?_ | refine blk_alloc ?_ _)); refine blk_far ?_ NB321_331.out _; (with_reducible repeat (first | refine blk_drewN ?_ _ | refine blk_drew ?_ | refine blk_alloc ?_ _)); exact BK321.out⟩
      have n8_ : Aside0 ((((((w21.setCell ⟨gb331, 0, none⟩ (.int .i64 t322)).setCell ⟨gb331, 1, none⟩ (.string t323)).setCell ⟨gb331, 2, none⟩ (.slice Ao25 t324.length co25)).setCell ⟨gb331, 3, none⟩ (.slice Ao26 t327.length co26)).setCell ⟨gb331, 4, none⟩ (.int .i64 t330)).heap[gb331]? = some (.cells #[.int .i64 t322, .string t323, .slice Ao25 t324.length co25, .slice Ao26 t327.length co26, .int .i64 t330] 26 (0, 0))) := ⟨by (with_reducible repeat (first | refine blk_drewN ?_ _ | refine blk_drew ?_ | refine blk_alloc ?_ _)); refine blk_put (cs := #[.int .i64 t322, .string t323, .slice Ao25 t324.length co25, .slice Ao26 t327.length co26, .int .i64 0]) ?_ 4 _ rfl; (with_reducible repeat (first | refine blk_drewN ?_ _ | refine blk_drew ?_ | refine blk_alloc ?_ _)); refine blk_put (cs := #[.int .i64 t322, .string t323, .slice Ao25 t324.length co25, .slice none 0 0, .int .i64 0]) ?_ 3 _ rfl; (with_reducible repeat (first | refine blk_drewN ?_ _ | refine blk_drew ?_ | refine blk_alloc ?_ _)); refine blk_put (cs := #[.int .i64 t322, .string t323, .slice none 0 0, .slice none 0 0, .int .i64 0]) ?_ 2 _ rfl; (with_reducible repeat (first | refine blk_drewN ?_ _ | refine blk_drew ?_ | refine blk_alloc ?_ _)); refine blk_put (cs := #[.int .i64 t322, .string (⟨#[]⟩ : ByteArray), .slice none 0 0, .slice none 0 0, .int .i64 0]) ?_ 1 _ rfl; (with_reducible repeat (first | refine blk_drewN ?_ _ | refine blk_drew ?_ | refine blk_alloc ?_ _)); refine blk_put (cs := #[.int .i64 0, .string (⟨#[]⟩ : ByteArray), .slice none 0 0, .slice none 0 0, .int .i64 0]) ?_ 0 _ rfl; (with_reducible repeat (first | refine blk_drewN ?_ _ | refine blk_drew ?_ | refine blk_alloc ?_ _)); exact BK331.out⟩
      have n9_ : Aside0 (Below w.heap.size w (((((w21.setCell ⟨gb331, 0, none⟩ (.int .i64 t322)).setCell ⟨gb331, 1, none⟩ (.string t323)).setCell ⟨gb331, 2, none⟩ (.slice Ao25 t324.length co25)).setCell ⟨gb331, 3, none⟩ (.slice Ao26 t327.length co26)).setCell ⟨gb331, 4, none⟩ (.int .i64 t330))) := ⟨(q8_ HB.out GE320.out GE321.out GE331.out)⟩
      (try clear HO306)
      (try clear HO309)
      (try clear HO315)
      (try clear HO318)
      (try clear HO326)
      (try clear HO329)
      (try clear BK320)
      (try clear BK321)
      (try clear BK331)
      (try clear HB)
      generalize (((((w21.setCell ⟨gb331, 0, none⟩ (.int .i64 t322)).setCell ⟨gb331, 1, none⟩ (.string t323)).setCell ⟨gb331, 2, none⟩ (.slice Ao25 t324.length co25)).setCell ⟨gb331, 3, none⟩ (.slice Ao26 t327.length co26)).setCell ⟨gb331, 4, none⟩ (.int .i64 t330)) = w43 at n0_ n1_ n2_ n3_ n4_ n5_ n6_ n7_ n8_ n9_ ⊢
      have HO306 := n0_
      have HO309 := n1_
      have HO315 := n2_
      have HO318 := n3_
      have HO326 := n4_
      have HO329 := n5_
      have BK320 := n6_
      have BK321 := n7_
      have BK331 := n8_
      have HB := n9_
      clear n0_ n1_ n2_ n3_ n4_ n5_ n6_ n7_ n8_ n9_
      have n0_ := Aside0.mk (Kd.R_drew HO306.out)
      have n1_ := Aside0.mk (Kd.R_drew HO309.out)
      have n2_ := Aside0.mk (Kd.R_drew HO315.out)
      have n3_ := Aside0.mk (Kd.R_drew HO318.out)
      have n4_ := Aside0.mk (Kd.R_drew HO326.out)
      have n5_ := Aside0.mk (Kd.R_drew HO329.out)
      have n6_ := Aside0.mk (blk_drew BK320.out)
      have n7_ := Aside0.mk (blk_drew BK321.out)
      have n8_ := Aside0.mk (blk_drew BK331.out)
      have n9_ := Aside0.mk (below_drew1 HB.out)
      clear HO306
      clear HO309
      clear HO315
      clear HO318
      clear HO326
      clear HO329
      clear BK320
      clear BK321
      clear BK331
      clear HB
      have HO306 := n0_
      have HO309 := n1_
      have HO315 := n2_
      have HO318 := n3_
      have HO326 := n4_
      have HO329 := n5_
      have BK320 := n6_
      have BK321 := n7_
      have BK331 := n8_
      have HB := n9_
      clear n0_ n1_ n2_ n3_ n4_ n5_ n6_ n7_ n8_ n9_
      refine start_ (n := 36) (S := fun w' => w'.cell? ⟨gb320, 0, none⟩ = some (.int .i64 t302) ∧ w'.cell? ⟨gb320, 1, none⟩ = some (.string t303) ∧ w'.cell? ⟨gb320, 2, none⟩ = some (.slice Ao15 t304.length co15) ∧ w'.cell? ⟨gb320, 3, none⟩ = some (.slice Ao16 t307.length co16) ∧ w'.cell? ⟨gb320, 4, none⟩ = some (.int .i64 t310) ∧ w'.cell? ⟨gb321, 0, none⟩ = some (.int .i64 t311) ∧ w'.cell? ⟨gb321, 1, none⟩ = some (.string t312) ∧ w'.cell? ⟨gb321, 2, none⟩ = some (.slice Ao18 t313.length co18) ∧ w'.cell? ⟨gb321, 3, none⟩ = some (.slice Ao19 t316.length co19) ∧ w'.cell? ⟨gb321, 4, none⟩ = some (.int .i64 t319)) (ds := []) (ml_ 36 0) (by kernel_rfl) rfl rfl ⟨(blk_cell BK320.out 0).trans rfl, (blk_cell BK320.out 1).trans rfl, (blk_cell BK320.out 2).trans rfl, (blk_cell BK320.out 3).trans rfl, (blk_cell BK320.out 4).trans rfl, (blk_cell BK321.out 0).trans rfl, (blk_cell BK321.out 1).trans rfl, (blk_cell BK321.out 2).trans rfl, (blk_cell BK321.out 3).trans rfl, (blk_cell BK321.out 4).trans rfl⟩ (fun hHeld => ?_); refine with_tabW caravanlaw5_ItemMade.tab3 caravanlaw5_ItemMade.bits3 (fun HT_ HW_ => ?_)
      generalize w43.drew = w44 at HO306 HO309 HO315 HO318 HO326 HO329 BK320 BK321 BK331 HB hHeld ⊢
      refine t10_ 0 22 (ml_ 36 1) rfl rfl HT_.out HW_.out hHeld ?_
      refine one_ (i := 1) (N := some 23) (ml_ 36 3) rfl rfl (one_of HT_.out (by kernel_rfl)) (by decide) (fun K hK => ?_)
      refine goes_ Try.func9 (by kernel_rfl) rfl #[.agg #[.int .i64 t302, .string t303, .slice Ao15 t304.length co15, .slice Ao16 t307.length co16, .int .i64 t310]] (by rfl) rfl rfl qM_ ?_
      with_reducible refine (item_May.calls t302 t303 _ _ t304 _ _ t307 t310 true _ ?side1 ?side2 ?side3 ?side4 A27.out).mono ?_
      (case side1 => exact qC_ ((Kd.R_reads' HO306.out).2.2))
      (case side2 => exact (Kd.R_reads' HO306.out).2.1)
      (case side3 => exact qC_ ((Kd.R_reads' HO309.out).2.2))
      (case side4 => exact (Kd.R_reads' HO309.out).2.1)
      rintro e w45 ⟨rfl, hb⟩
      refine ⟨_, rfl, ?_⟩
      have n0_ := Aside0.mk (Kd.R_below (q1_ HO306.out) hb)
      have n1_ := Aside0.mk (Kd.R_below (q1_ HO309.out) hb)
      have n2_ := Aside0.mk (Kd.R_below (q1_ HO315.out) hb)
      have n3_ := Aside0.mk (Kd.R_below (q1_ HO318.out) hb)
      have n4_ := Aside0.mk (Kd.R_below (q1_ HO326.out) hb)
      have n5_ := Aside0.mk (Kd.R_below (q1_ HO329.out) hb)
      have n6_ := Aside0.mk (blk_below (g := gb320) (o := .cells #[.int .i64 t302, .string t303, .slice Ao15 t304.length co15, .slice Ao16 t307.length co16, .int .i64 t310] 26 (0, 0)) (q3_ BK320.out) hb)
      have n7_ := Aside0.mk (blk_below (g := gb321) (o := .cells #[.int .i64 t311, .string t312, .slice Ao18 t313.length co18, .slice Ao19 t316.length co19, .int .i64 t319] 26 (0, 0)) (q3_ BK321.out) hb)
      have n8_ := Aside0.mk (blk_below (g := gb331) (o := .cells #[.int .i64 t322, .string t323, .slice Ao25 t324.length co25, .slice Ao26 t327.length co26, .int .i64 t330] 26 (0, 0)) (q3_ BK331.out) hb)
      have n9_ := Aside0.mk (below_step (q8_ HB.out GE320.out GE321.out GE331.out) hb)
      clear HO306
      clear HO309
      clear HO315
      clear HO318
      clear HO326
      clear HO329
      clear BK320
      clear BK321
      clear BK331
      clear HB
      have HO306 := n0_
      have HO309 := n1_
      have HO315 := n2_
      have HO318 := n3_
      have HO326 := n4_
      have HO329 := n5_
      have BK320 := n6_
      have BK321 := n7_
      have BK331 := n8_
      have HB := n9_
      clear n0_ n1_ n2_ n3_ n4_ n5_ n6_ n7_ n8_ n9_
      (try clear hb)
      (try clear hb2)
      (try clear hk)
      (try clear hi)
      refine hK.out _ _ ⟨(blk_cell BK320.out 0).trans rfl, (blk_cell BK320.out 1).trans rfl, (blk_cell BK320.out 2).trans rfl, (blk_cell BK320.out 3).trans rfl, (blk_cell BK320.out 4).trans rfl, (blk_cell BK321.out 0).trans rfl, (blk_cell BK321.out 1).trans rfl, (blk_cell BK321.out 2).trans rfl, (blk_cell BK321.out 3).trans rfl, (blk_cell BK321.out 4).trans rfl⟩ (fun hHeld => ?_)
      clear hK K
      refine nA_ 23 ?_
      refine pA_ 2 24 (ml_ 36 7) rfl rfl HT_.out ?_
      refine pA_ 3 25 (ml_ 36 15) rfl rfl HT_.out ?_
      refine t10_ 4 26 (ml_ 36 31) rfl rfl HT_.out HW_.out hHeld ?_
      refine t10_ 5 27 (ml_ 36 63) rfl rfl HT_.out HW_.out hHeld ?_
      refine t10_ 7 29 (ml_ 36 191) rfl rfl HT_.out HW_.out hHeld ?_
      refine t10_ 8 30 (ml_ 36 447) rfl rfl HT_.out HW_.out hHeld ?_
      refine one_ (i := 6) (N := some 28) (ml_ 36 511) rfl rfl (one_of HT_.out (by kernel_rfl)) (by decide) (fun K hK => ?_)
      refine goes_ Try.func17 (by kernel_rfl) rfl #[.agg #[.int .i64 t302, .string t303, .slice Ao15 t304.length co15, .slice Ao16 t307.length co16, .int .i64 t310], .agg #[.int .i64 t311, .string t312, .slice Ao18 t313.length co18, .slice Ao19 t316.length co19, .int .i64 t319]] (by rfl) rfl rfl qM_ ?_
      with_reducible refine (item_Same.calls k t302 t303 _ _ t304 _ _ t307 t310 t311 t312 _ _ t313 _ _ t316 t319 t333 _ ?side1 ?side2 ?side3 ?side4 ?side5 ?side6 ?side7 ?side8 A29.out).mono ?_
      (case side1 => exact qC_ ((Kd.R_reads' HO306.out).2.2))
      (case side2 => exact (Kd.R_reads' HO306.out).2.1)
      (case side3 => exact qC_ ((Kd.R_reads' HO309.out).2.2))
      (case side4 => exact (Kd.R_reads' HO309.out).2.1)
      (case side5 => exact qC_ ((Kd.R_reads' HO315.out).2.2))
      (case side6 => exact (Kd.R_reads' HO315.out).2.1)
      (case side7 => exact qC_ ((Kd.R_reads' HO318.out).2.2))
      (case side8 => exact (Kd.R_reads' HO318.out).2.1)
      rintro e w46 ⟨rfl, hb⟩
      refine ⟨_, rfl, ?_⟩
      have n0_ := Aside0.mk (Kd.R_below (q1_ HO306.out) hb)
      have n1_ := Aside0.mk (Kd.R_below (q1_ HO309.out) hb)
      have n2_ := Aside0.mk (Kd.R_below (q1_ HO315.out) hb)
      have n3_ := Aside0.mk (Kd.R_below (q1_ HO318.out) hb)
      have n4_ := Aside0.mk (Kd.R_below (q1_ HO326.out) hb)
      have n5_ := Aside0.mk (Kd.R_below (q1_ HO329.out) hb)
      have n6_ := Aside0.mk (blk_below (g := gb320) (o := .cells #[.int .i64 t302, .string t303, .slice Ao15 t304.length co15, .slice Ao16 t307.length co16, .int .i64 t310] 26 (0, 0)) (q3_ BK320.out) hb)
      have n7_ := Aside0.mk (blk_below (g := gb321) (o := .cells #[.int .i64 t311, .string t312, .slice Ao18 t313.length co18, .slice Ao19 t316.length co19, .int .i64 t319] 26 (0, 0)) (q3_ BK321.out) hb)
      have n8_ := Aside0.mk (blk_below (g := gb331) (o := .cells #[.int .i64 t322, .string t323, .slice Ao25 t324.length co25, .slice Ao26 t327.length co26, .int .i64 t330] 26 (0, 0)) (q3_ BK331.out) hb)
      have n9_ := Aside0.mk (below_step (q8_ HB.out GE320.out GE321.out GE331.out) hb)
      clear HO306
      clear HO309
      clear HO315
      clear HO318
      clear HO326
      clear HO329
      clear BK320
      clear BK321
      clear BK331
      clear HB
      have HO306 := n0_
      have HO309 := n1_
      have HO315 := n2_
      have HO318 := n3_
      have HO326 := n4_
      have HO329 := n5_
      have BK320 := n6_
      have BK321 := n7_
      have BK331 := n8_
      have HB := n9_
      clear n0_ n1_ n2_ n3_ n4_ n5_ n6_ n7_ n8_ n9_
      (try clear hb)
      (try clear hb2)
      (try clear hk)
      (try clear hi)
      refine hK.out _ _ ⟨(blk_cell BK320.out 0).trans rfl, (blk_cell BK320.out 1).trans rfl, (blk_cell BK320.out 2).trans rfl, (blk_cell BK320.out 3).trans rfl, (blk_cell BK320.out 4).trans rfl, (blk_cell BK321.out 0).trans rfl, (blk_cell BK321.out 1).trans rfl, (blk_cell BK321.out 2).trans rfl, (blk_cell BK321.out 3).trans rfl, (blk_cell BK321.out 4).trans rfl⟩ (fun hHeld => ?_)
      clear hK K
      refine nA_ 28 ?_
      refine one_ (i := 9) (N := some 31) (ml_ 36 1023) rfl rfl (one_of HT_.out (by kernel_rfl)) (by decide) (fun K hK => ?_)
      refine goes_ Try.func18 (by kernel_rfl) rfl #[.agg #[.int .i64 t302, .string t303, .slice Ao15 t304.length co15, .slice Ao16 t307.length co16, .int .i64 t310], .agg #[.int .i64 t311, .string t312, .slice Ao18 t313.length co18, .slice Ao19 t316.length co19, .int .i64 t319]] (by rfl) rfl rfl qM_ ?_
      with_reducible refine (caravanref5_SameItem.calls k t302 t303 _ _ t304 _ _ t307 t310 t311 t312 _ _ t313 _ _ t316 t319 t334 _ ?side1 ?side2 ?side3 ?side4 ?side5 ?side6 ?side7 ?side8 A30.out).mono ?_
      (case side1 => exact qC_ ((Kd.R_reads' HO306.out).2.2))
      (case side2 => exact (Kd.R_reads' HO306.out).2.1)
      (case side3 => exact qC_ ((Kd.R_reads' HO309.out).2.2))
      (case side4 => exact (Kd.R_reads' HO309.out).2.1)
      (case side5 => exact qC_ ((Kd.R_reads' HO315.out).2.2))
      (case side6 => exact (Kd.R_reads' HO315.out).2.1)
      (case side7 => exact qC_ ((Kd.R_reads' HO318.out).2.2))
      (case side8 => exact (Kd.R_reads' HO318.out).2.1)
      rintro e w47 ⟨rfl, hb⟩
      refine ⟨_, rfl, ?_⟩
      have n0_ := Aside0.mk (Kd.R_below (q1_ HO306.out) hb)
      have n1_ := Aside0.mk (Kd.R_below (q1_ HO309.out) hb)
      have n2_ := Aside0.mk (Kd.R_below (q1_ HO315.out) hb)
      have n3_ := Aside0.mk (Kd.R_below (q1_ HO318.out) hb)
      have n4_ := Aside0.mk (Kd.R_below (q1_ HO326.out) hb)
      have n5_ := Aside0.mk (Kd.R_below (q1_ HO329.out) hb)
      have n6_ := Aside0.mk (blk_below (g := gb320) (o := .cells #[.int .i64 t302, .string t303, .slice Ao15 t304.length co15, .slice Ao16 t307.length co16, .int .i64 t310] 26 (0, 0)) (q3_ BK320.out) hb)
      have n7_ := Aside0.mk (blk_below (g := gb321) (o := .cells #[.int .i64 t311, .string t312, .slice Ao18 t313.length co18, .slice Ao19 t316.length co19, .int .i64 t319] 26 (0, 0)) (q3_ BK321.out) hb)
      have n8_ := Aside0.mk (blk_below (g := gb331) (o := .cells #[.int .i64 t322, .string t323, .slice Ao25 t324.length co25, .slice Ao26 t327.length co26, .int .i64 t330] 26 (0, 0)) (q3_ BK331.out) hb)
      have n9_ := Aside0.mk (below_step (q8_ HB.out GE320.out GE321.out GE331.out) hb)
      clear HO306
      clear HO309
      clear HO315
      clear HO318
      clear HO326
      clear HO329
      clear BK320
      clear BK321
      clear BK331
      clear HB
      have HO306 := n0_
      have HO309 := n1_
      have HO315 := n2_
      have HO318 := n3_
      have HO326 := n4_
      have HO329 := n5_
      have BK320 := n6_
      have BK321 := n7_
      have BK331 := n8_
      have HB := n9_
      clear n0_ n1_ n2_ n3_ n4_ n5_ n6_ n7_ n8_ n9_
      (try clear hb)
      (try clear hb2)
      (try clear hk)
      (try clear hi)
      refine hK.out _ _ ⟨(blk_cell BK320.out 0).trans rfl, (blk_cell BK320.out 1).trans rfl, (blk_cell BK320.out 2).trans rfl, (blk_cell BK320.out 3).trans rfl, (blk_cell BK320.out 4).trans rfl, (blk_cell BK321.out 0).trans rfl, (blk_cell BK321.out 1).trans rfl, (blk_cell BK321.out 2).trans rfl, (blk_cell BK321.out 3).trans rfl, (blk_cell BK321.out 4).trans rfl⟩ (fun hHeld => ?_)
      clear hK K
      refine nA_ 31 ?_
      refine pA_ 10 32 (ml_ 36 2047) rfl rfl HT_.out ?_
      refine pA_ 11 33 (ml_ 36 4095) rfl rfl HT_.out ?_
      refine pA_ 12 34 (ml_ 36 8191) rfl rfl HT_.out ?_
      refine t10_ 13 35 (ml_ 36 16383) rfl rfl HT_.out HW_.out hHeld ?_
      refine t10_ 15 37 (ml_ 36 49151) rfl rfl HT_.out HW_.out hHeld ?_
      refine one_ (i := 14) (N := some 36) (ml_ 36 65535) rfl rfl (one_of HT_.out (by kernel_rfl)) (by decide) (fun K hK => ?_)
      refine goes_ Try.func15 (by kernel_rfl) rfl #[.agg #[.int .i64 t302, .string t303, .slice Ao15 t304.length co15, .slice Ao16 t307.length co16, .int .i64 t310]] (by rfl) rfl rfl qM_ ?_
      with_reducible refine (item_Type.calls t302 t303 _ _ t304 _ _ t307 t310 t335 _ ?side1 ?side2 ?side3 ?side4 A37.out).mono ?_
      (case side1 => exact qC_ ((Kd.R_reads' HO306.out).2.2))
      (case side2 => exact (Kd.R_reads' HO306.out).2.1)
      (case side3 => exact qC_ ((Kd.R_reads' HO309.out).2.2))
      (case side4 => exact (Kd.R_reads' HO309.out).2.1)
      rintro e w48 ⟨rfl, hb⟩
      refine ⟨_, rfl, ?_⟩
      have n0_ := Aside0.mk (Kd.R_below (q1_ HO306.out) hb)
      have n1_ := Aside0.mk (Kd.R_below (q1_ HO309.out) hb)
      have n2_ := Aside0.mk (Kd.R_below (q1_ HO315.out) hb)
      have n3_ := Aside0.mk (Kd.R_below (q1_ HO318.out) hb)
      have n4_ := Aside0.mk (Kd.R_below (q1_ HO326.out) hb)
      have n5_ := Aside0.mk (Kd.R_below (q1_ HO329.out) hb)
      have n6_ := Aside0.mk (blk_below (g := gb320) (o := .cells #[.int .i64 t302, .string t303, .slice Ao15 t304.length co15, .slice Ao16 t307.length co16, .int .i64 t310] 26 (0, 0)) (q3_ BK320.out) hb)
      have n7_ := Aside0.mk (blk_below (g := gb321) (o := .cells #[.int .i64 t311, .string t312, .slice Ao18 t313.length co18, .slice Ao19 t316.length co19, .int .i64 t319] 26 (0, 0)) (q3_ BK321.out) hb)
      have n8_ := Aside0.mk (blk_below (g := gb331) (o := .cells #[.int .i64 t322, .string t323, .slice Ao25 t324.length co25, .slice Ao26 t327.length co26, .int .i64 t330] 26 (0, 0)) (q3_ BK331.out) hb)
      have n9_ := Aside0.mk (below_step (q8_ HB.out GE320.out GE321.out GE331.out) hb)
      clear HO306
      clear HO309
      clear HO315
      clear HO318
      clear HO326
      clear HO329
      clear BK320
      clear BK321
      clear BK331
      clear HB
      have HO306 := n0_
      have HO309 := n1_
      have HO315 := n2_
      have HO318 := n3_
      have HO326 := n4_
      have HO329 := n5_
      have BK320 := n6_
      have BK321 := n7_
      have BK331 := n8_
      have HB := n9_
      clear n0_ n1_ n2_ n3_ n4_ n5_ n6_ n7_ n8_ n9_
      (try clear hb)
      (try clear hb2)
      (try clear hk)
      (try clear hi)
      refine hK.out _ _ ⟨(blk_cell BK320.out 0).trans rfl, (blk_cell BK320.out 1).trans rfl, (blk_cell BK320.out 2).trans rfl, (blk_cell BK320.out 3).trans rfl, (blk_cell BK320.out 4).trans rfl, (blk_cell BK321.out 0).trans rfl, (blk_cell BK321.out 1).trans rfl, (blk_cell BK321.out 2).trans rfl, (blk_cell BK321.out 3).trans rfl, (blk_cell BK321.out 4).trans rfl⟩ (fun hHeld => ?_)
      clear hK K
      refine nA_ 36 ?_
      refine one_ (i := 16) (N := some 38) (ml_ 36 131071) rfl rfl (one_of HT_.out (by kernel_rfl)) (by decide) (fun K hK => ?_)
      refine goes_ Try.func16 (by kernel_rfl) rfl #[.agg #[.int .i64 t302, .string t303, .slice Ao15 t304.length co15, .slice Ao16 t307.length co16, .int .i64 t310]] (by rfl) rfl rfl qM_ ?_
      with_reducible refine (caravanref5_Type.calls t302 t303 _ _ t304 _ _ t307 t310 t336 _ ?side1 ?side2 ?side3 ?side4 A38.out).mono ?_
      (case side1 => exact qC_ ((Kd.R_reads' HO306.out).2.2))
      (case side2 => exact (Kd.R_reads' HO306.out).2.1)
      (case side3 => exact qC_ ((Kd.R_reads' HO309.out).2.2))
      (case side4 => exact (Kd.R_reads' HO309.out).2.1)
      rintro e w49 ⟨rfl, hb⟩
      refine ⟨_, rfl, ?_⟩
      have n0_ := Aside0.mk (Kd.R_below (q1_ HO306.out) hb)
      have n1_ := Aside0.mk (Kd.R_below (q1_ HO309.out) hb)
      have n2_ := Aside0.mk (Kd.R_below (q1_ HO315.out) hb)
      have n3_ := Aside0.mk (Kd.R_below (q1_ HO318.out) hb)
      have n4_ := Aside0.mk (Kd.R_below (q1_ HO326.out) hb)
      have n5_ := Aside0.mk (Kd.R_below (q1_ HO329.out) hb)
      have n6_ := Aside0.mk (blk_below (g := gb320) (o := .cells #[.int .i64 t302, .string t303, .slice Ao15 t304.length co15, .slice Ao16 t307.length co16, .int .i64 t310] 26 (0, 0)) (q3_ BK320.out) hb)
      have n7_ := Aside0.mk (blk_below (g := gb321) (o := .cells #[.int .i64 t311, .string t312, .slice Ao18 t313.length co18, .slice Ao19 t316.length co19, .int .i64 t319] 26 (0, 0)) (q3_ BK321.out) hb)
      have n8_ := Aside0.mk (blk_below (g := gb331) (o := .cells #[.int .i64 t322, .string t323, .slice Ao25 t324.length co25, .slice Ao26 t327.length co26, .int .i64 t330] 26 (0, 0)) (q3_ BK331.out) hb)
      have n9_ := Aside0.mk (below_step (q8_ HB.out GE320.out GE321.out GE331.out) hb)
      clear HO306
      clear HO309
      clear HO315
      clear HO318
      clear HO326
      clear HO329
      clear BK320
      clear BK321
      clear BK331
      clear HB
      have HO306 := n0_
      have HO309 := n1_
      have HO315 := n2_
      have HO318 := n3_
      have HO326 := n4_
      have HO329 := n5_
      have BK320 := n6_
      have BK321 := n7_
      have BK331 := n8_
      have HB := n9_
      clear n0_ n1_ n2_ n3_ n4_ n5_ n6_ n7_ n8_ n9_
      (try clear hb)
      (try clear hb2)
      (try clear hk)
      (try clear hi)
      refine hK.out _ _ ⟨(blk_cell BK320.out 0).trans rfl, (blk_cell BK320.out 1).trans rfl, (blk_cell BK320.out 2).trans rfl, (blk_cell BK320.out 3).trans rfl, (blk_cell BK320.out 4).trans rfl, (blk_cell BK321.out 0).trans rfl, (blk_cell BK321.out 1).trans rfl, (blk_cell BK321.out 2).trans rfl, (blk_cell BK321.out 3).trans rfl, (blk_cell BK321.out 4).trans rfl⟩ (fun hHeld => ?_)
      clear hK K
      refine nA_ 38 ?_
      refine pA_ 17 39 (ml_ 36 262143) rfl rfl HT_.out ?_
      refine pA_ 18 40 (ml_ 36 524287) rfl rfl HT_.out ?_
      refine pA_ 19 41 (ml_ 36 1048575) rfl rfl HT_.out ?_
      refine pA_ 21 43 (ml_ 36 3145727) rfl rfl HT_.out ?_
      refine pA_ 22 44 (ml_ 36 7340031) rfl rfl HT_.out ?_
      refine pA_ 25 47 (ml_ 36 40894463) rfl rfl HT_.out ?_
      refine pA_ 26 48 (ml_ 36 108003327) rfl rfl HT_.out ?_
      refine t10_ 20 42 (ml_ 36 109051903) rfl rfl HT_.out HW_.out hHeld ?_
      refine t10_ 24 46 (ml_ 36 125829119) rfl rfl HT_.out HW_.out hHeld ?_
      refine one_ (i := 23) (N := some 45) (ml_ 36 134217727) rfl rfl (one_of HT_.out (by kernel_rfl)) (by decide) (fun K hK => ?_)
      refine goes_ Try.func13 (by kernel_rfl) rfl #[.agg #[.int .i64 t302, .string t303, .slice Ao15 t304.length co15, .slice Ao16 t307.length co16, .int .i64 t310], .int .i64 (wrap64 (a3))] (by rfl) rfl rfl qM_ ?_
      with_reducible refine (item_Alive.calls t302 t303 _ _ t304 _ _ t307 t310 (wrap64 (a3)) t337 _ ?side1 ?side2 ?side3 ?side4 A40.out).mono ?_
      (case side1 => exact qC_ ((Kd.R_reads' HO306.out).2.2))
      (case side2 => exact (Kd.R_reads' HO306.out).2.1)
      (case side3 => exact qC_ ((Kd.R_reads' HO309.out).2.2))
      (case side4 => exact (Kd.R_reads' HO309.out).2.1)
      rintro e w50 ⟨rfl, hb⟩
      refine ⟨_, rfl, ?_⟩
      have n0_ := Aside0.mk (Kd.R_below (q1_ HO306.out) hb)
      have n1_ := Aside0.mk (Kd.R_below (q1_ HO309.out) hb)
      have n2_ := Aside0.mk (Kd.R_below (q1_ HO315.out) hb)
      have n3_ := Aside0.mk (Kd.R_below (q1_ HO318.out) hb)
      have n4_ := Aside0.mk (Kd.R_below (q1_ HO326.out) hb)
      have n5_ := Aside0.mk (Kd.R_below (q1_ HO329.out) hb)
      have n6_ := Aside0.mk (blk_below (g := gb320) (o := .cells #[.int .i64 t302, .string t303, .slice Ao15 t304.length co15, .slice Ao16 t307.length co16, .int .i64 t310] 26 (0, 0)) (q3_ BK320.out) hb)
      have n7_ := Aside0.mk (blk_below (g := gb321) (o := .cells #[.int .i64 t311, .string t312, .slice Ao18 t313.length co18, .slice Ao19 t316.length co19, .int .i64 t319] 26 (0, 0)) (q3_ BK321.out) hb)
      have n8_ := Aside0.mk (blk_below (g := gb331) (o := .cells #[.int .i64 t322, .string t323, .slice Ao25 t324.length co25, .slice Ao26 t327.length co26, .int .i64 t330] 26 (0, 0)) (q3_ BK331.out) hb)
      have n9_ := Aside0.mk (below_step (q8_ HB.out GE320.out GE321.out GE331.out) hb)
      clear HO306
      clear HO309
      clear HO315
      clear HO318
      clear HO326
      clear HO329
      clear BK320
      clear BK321
      clear BK331
      clear HB
      have HO306 := n0_
      have HO309 := n1_
      have HO315 := n2_
      have HO318 := n3_
      have HO326 := n4_
      have HO329 := n5_
      have BK320 := n6_
      have BK321 := n7_
      have BK331 := n8_
      have HB := n9_
      clear n0_ n1_ n2_ n3_ n4_ n5_ n6_ n7_ n8_ n9_
      (try clear hb)
      (try clear hb2)
      (try clear hk)
      (try clear hi)
      refine hK.out _ _ ⟨(blk_cell BK320.out 0).trans rfl, (blk_cell BK320.out 1).trans rfl, (blk_cell BK320.out 2).trans rfl, (blk_cell BK320.out 3).trans rfl, (blk_cell BK320.out 4).trans rfl, (blk_cell BK321.out 0).trans rfl, (blk_cell BK321.out 1).trans rfl, (blk_cell BK321.out 2).trans rfl, (blk_cell BK321.out 3).trans rfl, (blk_cell BK321.out 4).trans rfl⟩ (fun hHeld => ?_)
      clear hK K
      refine nA_ 45 ?_
      refine one_ (i := 27) (N := some 49) (ml_ 36 268435455) rfl rfl (one_of HT_.out (by kernel_rfl)) (by decide) (fun K hK => ?_)
      refine goes_ Try.func14 (by kernel_rfl) rfl #[.agg #[.int .i64 t302, .string t303, .slice Ao15 t304.length co15, .slice Ao16 t307.length co16, .int .i64 t310], .int .i64 (wrap64 (a3))] (by rfl) rfl rfl qM_ ?_
      with_reducible refine (caravanref5_Alive.calls t302 t303 _ _ t304 _ _ t307 t310 (wrap64 (a3)) t338 _ ?side1 ?side2 ?side3 ?side4 A41.out).mono ?_
      (case side1 => exact qC_ ((Kd.R_reads' HO306.out).2.2))
      (case side2 => exact (Kd.R_reads' HO306.out).2.1)
      (case side3 => exact qC_ ((Kd.R_reads' HO309.out).2.2))
      (case side4 => exact (Kd.R_reads' HO309.out).2.1)
      rintro e w51 ⟨rfl, hb⟩
      refine ⟨_, rfl, ?_⟩
      have n0_ := Aside0.mk (Kd.R_below (q1_ HO306.out) hb)
      have n1_ := Aside0.mk (Kd.R_below (q1_ HO309.out) hb)
      have n2_ := Aside0.mk (Kd.R_below (q1_ HO315.out) hb)
      have n3_ := Aside0.mk (Kd.R_below (q1_ HO318.out) hb)
      have n4_ := Aside0.mk (Kd.R_below (q1_ HO326.out) hb)
      have n5_ := Aside0.mk (Kd.R_below (q1_ HO329.out) hb)
      have n6_ := Aside0.mk (blk_below (g := gb320) (o := .cells #[.int .i64 t302, .string t303, .slice Ao15 t304.length co15, .slice Ao16 t307.length co16, .int .i64 t310] 26 (0, 0)) (q3_ BK320.out) hb)
      have n7_ := Aside0.mk (blk_below (g := gb321) (o := .cells #[.int .i64 t311, .string t312, .slice Ao18 t313.length co18, .slice Ao19 t316.length co19, .int .i64 t319] 26 (0, 0)) (q3_ BK321.out) hb)
      have n8_ := Aside0.mk (blk_below (g := gb331) (o := .cells #[.int .i64 t322, .string t323, .slice Ao25 t324.length co25, .slice Ao26 t327.length co26, .int .i64 t330] 26 (0, 0)) (q3_ BK331.out) hb)
      have n9_ := Aside0.mk (below_step (q8_ HB.out GE320.out GE321.out GE331.out) hb)
      clear HO306
      clear HO309
      clear HO315
      clear HO318
      clear HO326
      clear HO329
      clear BK320
      clear BK321
      clear BK331
      clear HB
      have HO306 := n0_
      have HO309 := n1_
      have HO315 := n2_
      have HO318 := n3_
      have HO326 := n4_
      have HO329 := n5_
      have BK320 := n6_
      have BK321 := n7_
      have BK331 := n8_
      have HB := n9_
      clear n0_ n1_ n2_ n3_ n4_ n5_ n6_ n7_ n8_ n9_
      (try clear hb)
      (try clear hb2)
      (try clear hk)
      (try clear hi)
      refine hK.out _ _ ⟨(blk_cell BK320.out 0).trans rfl, (blk_cell BK320.out 1).trans rfl, (blk_cell BK320.out 2).trans rfl, (blk_cell BK320.out 3).trans rfl, (blk_cell BK320.out 4).trans rfl, (blk_cell BK321.out 0).trans rfl, (blk_cell BK321.out 1).trans rfl, (blk_cell BK321.out 2).trans rfl, (blk_cell BK321.out 3).trans rfl, (blk_cell BK321.out 4).trans rfl⟩ (fun hHeld => ?_)
      clear hK K
      refine nA_ 49 ?_
      refine pA_ 28 50 (ml_ 36 536870911) rfl rfl HT_.out ?_
      refine pA_ 29 51 (ml_ 36 1073741823) rfl rfl HT_.out ?_
      refine pA_ 30 52 (ml_ 36 2147483647) rfl rfl HT_.out ?_
      refine pU_ 31 53 (ml_ 36 4294967295) rfl rfl HT_.out ?_
      refine pU_ 32 54 (ml_ 36 8589934591) rfl rfl HT_.out ?_
      refine pU_ 33 55 (ml_ 36 17179869183) rfl rfl HT_.out ?_
      refine pU_ 34 56 (ml_ 36 34359738367) rfl rfl HT_.out ?_
      refine pA_ 35 57 (ml_ 36 68719476735) rfl rfl HT_.out ?_
      refine done_ (done_of HT_.out (by kernel_rfl)) ?_
      try go_wp2
      go_meet
      case rel => exact ⟨_, (true), (by first | rfl | (simp; done) | (simp [*]; done)), H', ⟨by first | omega | exact Nat.le_refl _⟩, ⟨by (with_reducible repeat (first | apply Kd.R_alloc | apply Kd.R_drewN | apply Kd.R_drew)); exact HO306.out⟩, ⟨by (with_reducible repeat (first | apply Kd.R_alloc | apply Kd.R_drewN | apply Kd.R_drew)); exact HO309.out⟩, ⟨by (with_reducible repeat (first | apply Kd.R_alloc | apply Kd.R_drewN | apply Kd.R_drew)); exact HO315.out⟩, ⟨by (with_reducible repeat (first | apply Kd.R_alloc | apply Kd.R_drewN | apply Kd.R_drew)); exact HO318.out⟩, ⟨by (with_reducible repeat (first | apply Kd.R_alloc | apply Kd.R_drewN | apply Kd.R_drew)); exact HO326.out⟩, ⟨by (with_reducible repeat (first | apply Kd.R_alloc | apply Kd.R_drewN | apply Kd.R_drew)); exact HO329.out⟩, ⟨by (with_reducible repeat (first | refine blk_drewN ?_ _ | refine blk_drew ?_ | refine blk_alloc ?_ _)); exact BK320.out⟩, ⟨by (with_reducible repeat (first | refine blk_drewN ?_ _ | refine blk_drew ?_ | refine blk_alloc ?_ _)); exact BK321.out⟩, ⟨by (with_reducible repeat (first | refine blk_drewN ?_ _ | refine blk_drew ?_ | refine blk_alloc ?_ _)); exact BK331.out⟩, ⟨(q8_ HB.out GE320.out GE321.out GE331.out)⟩⟩
     ·rw [if_neg c42] at H
      have c42b0 : (t337 != t338) = false := by simpa using c42
      (try (have c42b1 : decide (t337 = t338) = true := by simpa using c42))
      (try (have c42b2 : (t337 == t338) = true := by simpa using c42))
      clear c42
      replace H := Option.bind_eq_some_iff.mp H
      obtain ⟨t339, A520, H⟩ := H
      replace H : (caravanlaw5_ItemMade.j0 k l0 a2 (!t339) t302 t303 t304 t307 t310 t322 t323 t324 t327 t330) = some r := H
      have A52 := Aside0.mk A520
      clear A520
      have H' := Aside0.mk H
      clear H
      try go_wp2
      have n0_ : Aside0 (Kd.R k29 29 (((((w21.setCell ⟨gb331, 0, none⟩ (.int .i64 t322)).setCell ⟨gb331, 1, none⟩ (.string t323)).setCell ⟨gb331, 2, none⟩ (.slice Ao25 t324.length co25)).setCell ⟨gb331, 3, none⟩ (.slice Ao26 t327.length co26)).setCell ⟨gb331, 4, none⟩ (.int .i64 t330)) w.heap.size (fun k_ => some k_ ≠ (.slice Ao18 t313.length co18 : Value).ownBlock ∧ some k_ ≠ (.slice Ao25 t324.length co25 : Value).ownBlock) (.slice Ao15 t304.length co15) t304) := ⟨by (with_reducible repeat (first | apply Kd.R_alloc | apply Kd.R_drewN | apply Kd.R_drew)); exact Kd.R_mono (Kd.R_far (p := ⟨gb331, 4, none⟩) (Kd.R_far (p := ⟨gb331, 3, none⟩) (Kd.R_far (p := ⟨gb331, 2, none⟩) (Kd.R_far (p := ⟨gb331, 1, none⟩) (Kd.R_far (p := ⟨gb331, 0, none⟩) (Kd.R_types HO306.out BK331.out (by decide)) (fun _ hk => hk.2) (.int .i64 t322)) (fun _ hk => hk.2) (.string t323)) (fun _ hk => hk.2) (.slice Ao25 t324.length co25)) (fun _ hk => hk.2) (.slice Ao26 t327.length co26)) (fun _ hk => hk.2) (.int .i64 t330)) (fun _ hk => ⟨hk.1.1.2, hk.1.2⟩)⟩
      have n1_ : Aside0 (Kd.R Kd.string 9 (((((w21.setCell ⟨gb331, 0, none⟩ (.int .i64 t322)).setCell ⟨gb331, 1, none⟩ (.string t323)).setCell ⟨gb331, 2, none⟩ (.slice Ao25 t324.length co25)).setCell ⟨gb331, 3, none⟩ (.slice Ao26 t327.length co26)).setCell ⟨gb331, 4, none⟩ (.int .i64 t330)) w.heap.size (fun k_ => some k_ ≠ (.slice Ao19 t316.length co19 : Value).ownBlock ∧ some k_ ≠ (.slice Ao26 t327.length co26 : Value).ownBlock) (.slice Ao16 t307.length co16) t307) := ⟨by (with_reducible repeat (first | apply Kd.R_alloc | apply Kd.R_drewN | apply Kd.R_drew)); exact Kd.R_mono (Kd.R_far (p := ⟨gb331, 4, none⟩) (Kd.R_far (p := ⟨gb331, 3, none⟩) (Kd.R_far (p := ⟨gb331, 2, none⟩) (Kd.R_far (p := ⟨gb331, 1, none⟩) (Kd.R_far (p := ⟨gb331, 0, none⟩) (Kd.R_types HO309.out BK331.out (by decide)) (fun _ hk => hk.2) (.int .i64 t322)) (fun _ hk => hk.2) (.string t323)) (fun _ hk => hk.2) (.slice Ao25 t324.length co25)) (fun _ hk => hk.2) (.slice Ao26 t327.length co26)) (fun _ hk => hk.2) (.int .i64 t330)) (fun _ hk => ⟨hk.1.1.2, hk.1.2⟩)⟩
      have n2_ : Aside0 (Kd.R k29 29 (((((w21.setCell ⟨gb331, 0, none⟩ (.int .i64 t322)).setCell ⟨gb331, 1, none⟩ (.string t323)).setCell ⟨gb331, 2, none⟩ (.slice Ao25 t324.length co25)).setCell ⟨gb331, 3, none⟩ (.slice Ao26 t327.length co26)).setCell ⟨gb331, 4, none⟩ (.int .i64 t330)) w.heap.size (fun k_ => some k_ ≠ (.slice Ao15 t304.length co15 : Value).ownBlock ∧ some k_ ≠ (.slice Ao25 t324.length co25 : Value).ownBlock) (.slice Ao18 t313.length co18) t313) := ⟨by (with_reducible repeat (first | apply Kd.R_alloc | apply Kd.R_drewN | apply Kd.R_drew)); exact Kd.R_mono (Kd.R_far (p := ⟨gb331, 4, none⟩) (Kd.R_far (p := ⟨gb331, 3, none⟩) (Kd.R_far (p := ⟨gb331, 2, none⟩) (Kd.R_far (p := ⟨gb331, 1, none⟩) (Kd.R_far (p := ⟨gb331, 0, none⟩) (Kd.R_types HO315.out BK331.out (by decide)) (fun _ hk => hk.2) (.int .i64 t322)) (fun _ hk => hk.2) (.string t323)) (fun _ hk => hk.2) (.slice Ao25 t324.length co25)) (fun _ hk => hk.2) (.slice Ao26 t327.length co26)) (fun _ hk => hk.2) (.int .i64 t330)) (fun _ hk => ⟨hk.1.1.2, hk.1.2⟩)⟩
      have n3_ : Aside0 (Kd.R Kd.string 9 (((((w21.setCell ⟨gb331, 0, none⟩ (.int .i64 t322)).setCell ⟨gb331, 1, none⟩ (.string t323)).setCell ⟨gb331, 2, none⟩ (.slice Ao25 t324.length co25)).setCell ⟨gb331, 3, none⟩ (.slice Ao26 t327.length co26)).setCell ⟨gb331, 4, none⟩ (.int .i64 t330)) w.heap.size (fun k_ => some k_ ≠ (.slice Ao16 t307.length co16 : Value).ownBlock ∧ some k_ ≠ (.slice Ao26 t327.length co26 : Value).ownBlock) (.slice Ao19 t316.length co19) t316) := ⟨by (with_reducible repeat (first | apply Kd.R_alloc | apply Kd.R_drewN | apply Kd.R_drew)); exact Kd.R_mono (Kd.R_far (p := ⟨gb331, 4, none⟩) (Kd.R_far (p := ⟨gb331, 3, none⟩) (Kd.R_far (p := ⟨gb331, 2, none⟩) (Kd.R_far (p := ⟨gb331, 1, none⟩) (Kd.R_far (p := ⟨gb331, 0, none⟩) (Kd.R_types HO318.out BK331.out (by decide)) (fun _ hk => hk.2) (.int .i64 t322)) (fun _ hk => hk.2) (.string t323)) (fun _ hk => hk.2) (.slice Ao25 t324.length co25)) (fun _ hk => hk.2) (.slice Ao26 t327.length co26)) (fun _ hk => hk.2) (.int .i64 t330)) (fun _ hk => ⟨hk.1.1.2, hk.1.2⟩)⟩
      have n4_ : Aside0 (Kd.R k29 29 (((((w21.setCell ⟨gb331, 0, none⟩ (.int .i64 t322)).setCell ⟨gb331, 1, none⟩ (.string t323)).setCell ⟨gb331, 2, none⟩ (.slice Ao25 t324.length co25)).setCell ⟨gb331, 3, none⟩ (.slice Ao26 t327.length co26)).setCell ⟨gb331, 4, none⟩ (.int .i64 t330)) w.heap.size (fun k_ => some k_ ≠ (.slice Ao15 t304.length co15 : Value).ownBlock ∧ some k_ ≠ (.slice Ao18 t313.length co18 : Value).ownBlock) (.slice Ao25 t324.length co25) t324) := ⟨by (with_reducible repeat (first | apply Kd.R_alloc | apply Kd.R_drewN | apply Kd.R_drew)); exact Kd.R_mono (Kd.R_far (p := ⟨gb331, 4, none⟩) (Kd.R_far (p := ⟨gb331, 3, none⟩) (Kd.R_far (p := ⟨gb331, 2, none⟩) (Kd.R_far (p := ⟨gb331, 1, none⟩) (Kd.R_far (p := ⟨gb331, 0, none⟩) (Kd.R_types HO326.out BK331.out (by decide)) (fun _ hk => hk.2) (.int .i64 t322)) (fun _ hk => hk.2) (.string t323)) (fun _ hk => hk.2) (.slice Ao25 t324.length co25)) (fun _ hk => hk.2) (.slice Ao26 t327.length co26)) (fun _ hk => hk.2) (.int .i64 t330)) (fun _ hk => ⟨hk.1.1.2, hk.1.2⟩)⟩
      have n5_ : Aside0 (Kd.R Kd.string 9 (((((w21.setCell ⟨gb331, 0, none⟩ (.int .i64 t322)).setCell ⟨gb331, 1, none⟩ (.string t323)).setCell ⟨gb331, 2, none⟩ (.slice Ao25 t324.length co25)).setCell ⟨gb331, 3, none⟩ (.slice Ao26 t327.length co26)).setCell ⟨gb331, 4, none⟩ (.int .i64 t330)) w.heap.size (fun k_ => some k_ ≠ (.slice Ao16 t307.length co16 : Value).ownBlock ∧ some k_ ≠ (.slice Ao19 t316.length co19 : Value).ownBlock) (.slice Ao26 t327.length co26) t327) := ⟨by (with_reducible repeat (first | apply Kd.R_alloc | apply Kd.R_drewN | apply Kd.R_drew)); exact Kd.R_mono (Kd.R_far (p := ⟨gb331, 4, none⟩) (Kd.R_far (p := ⟨gb331, 3, none⟩) (Kd.R_far (p := ⟨gb331, 2, none⟩) (Kd.R_far (p := ⟨gb331, 1, none⟩) (Kd.R_far (p := ⟨gb331, 0, none⟩) (Kd.R_types HO329.out BK331.out (by decide)) (fun _ hk => hk.2) (.int .i64 t322)) (fun _ hk => hk.2) (.string t323)) (fun _ hk => hk.2) (.slice Ao25 t324.length co25)) (fun _ hk => hk.2) (.slice Ao26 t327.length co26)) (fun _ hk => hk.2) (.int .i64 t330)) (fun _ hk => ⟨hk.1.1.2, hk.1.2⟩)⟩
      have n6_ : Aside0 ((((((w21.setCell ⟨gb331, 0, none⟩ (.int .i64 t322)).setCell ⟨gb331, 1, none⟩ (.string t323)).setCell ⟨gb331, 2, none⟩ (.slice Ao25 t324.length co25)).setCell ⟨gb331, 3, none⟩ (.slice Ao26 t327.length co26)).setCell ⟨gb331, 4, none⟩ (.int .i64 t330)).heap[gb320]? = some (.cells #[.int .i64 t302, .string t303, .slice Ao15 t304.length co15, .slice Ao16 t307.length co16, .int .i64 t310] 26 (0, 0))) := ⟨by (with_reducible repeat (first | refine blk_drewN ?_ _ | refine blk_drew ?_ | refine blk_alloc ?_ _)); refine blk_far ?_ NB320_331.out _; (with_reducible repeat (first | refine blk_drewN ?_ _ | refine blk_drew ?_ | refine blk_alloc ?_ _)); refine blk_far ?_ NB320_331.out _; (with_reducible repeat (first | refine blk_drewN ?_ _ | refine blk_drew ?_ | refine blk_alloc ?_ _)); refine blk_far ?_ NB320_331.out _; (with_reducible repeat (first | refine blk_drewN ?_ _ | refine blk_drew ?_ | refine blk_alloc ?_ _)); refine blk_far ?_ NB320_331.out _; (with_reducible repeat (first | refine blk_drewN ?_ _ | refine blk_drew ?_ | refine blk_alloc ?_ _)); refine blk_far ?_ NB320_331.out _; (with_reducible repeat (first | refine blk_drewN ?_ _ | refine blk_drew ?_ | refine blk_alloc ?_ _)); exact BK320.out⟩
      have n7_ : Aside0 ((((((w21.setCell ⟨gb331, 0, none⟩ (.int .i64 t322)).setCell ⟨gb331, 1, none⟩ (.string t323)).setCell ⟨gb331, 2, none⟩ (.slice Ao25 t324.length co25)).setCell ⟨gb331, 3, none⟩ (.slice Ao26 t327.length co26)).setCell ⟨gb331, 4, none⟩ (.int .i64 t330)).heap[gb321]? = some (.cells #[.int .i64 t311, .string t312, .slice Ao18 t313.length co18, .slice Ao19 t316.length co19, .int .i64 t319] 26 (0, 0))) := ⟨by (with_reducible repeat (first | refine blk_drewN ?_ _ | refine blk_drew ?_ | refine blk_alloc ?_ _)); refine blk_far ?_ NB321_331.out _; (with_reducible repeat (first | refine blk_drewN ?_ _ | refine blk_drew ?_ | refine blk_alloc ?_ _)); refine blk_far ?_ NB321_331.out _; (with_reducible repeat (first | refine blk_drewN ?_ _ | refine blk_drew ?_ | refine blk_alloc ?_ _)); refine blk_far ?_ NB321_331.out _; (with_reducible repeat (first | refine blk_drewN ?_ _ | refine blk_drew ?_ | refine blk_alloc ?_ _)); refine blk_far ?_ NB321_331.out _; (with_reducible repeat (first | refine blk_drewN ?_ _ | refine blk_drew ?_ | refine blk_alloc ?_ _)); refine blk_far ?_ NB321_331.out _; (with_reducible repeat (first | refine blk_drewN ?_ _ | refine blk_drew ?_ | refine blk_alloc ?_ _)); exact BK321.out⟩
      have n8_ : Aside0 ((((((w21.setCell ⟨gb331, 0, none⟩ (.int .i64 t322)).setCell ⟨gb331, 1, none⟩ (.string t323)).setCell ⟨gb331, 2, none⟩ (.slice Ao25 t324.length co25)).setCell ⟨gb331, 3, none⟩ (.slice Ao26 t327.length co26)).setCell ⟨gb331, 4, none⟩ (.int .i64 t330)).heap[gb331]? = some (.cells #[.int .i64 t322, .string t323, .slice Ao25 t324.length co25, .slice Ao26 t327.length co26, .int .i64 t330] 26 (0, 0))) := ⟨by (with_reducible repeat (first | refine blk_drewN ?_ _ | refine blk_drew ?_ | refine blk_alloc ?_ _)); refine blk_put (cs := #[.int .i64 t322, .string t323, .slice Ao25 t324.length co25, .slice Ao26 t327.length co26, .int .i64 0]) ?_ 4 _ rfl; (with_reducible repeat (first | refine blk_drewN ?_ _ | refine blk_drew ?_ | refine blk_alloc ?_ _)); refine blk_put (cs := #[.int .i64 t322, .string t323, .slice Ao25 t324.length co25, .slice none 0 0, .int .i64 0]) ?_ 3 _ rfl; (with_reducible repeat (first | refine blk_drewN ?_ _ | refine blk_drew ?_ | refine blk_alloc ?_ _)); refine blk_put (cs := #[.int .i64 t322, .string t323, .slice none 0 0, .slice none 0 0, .int .i64 0]) ?_ 2 _ rfl; (with_reducible repeat (first | refine blk_drewN ?_ _ | refine blk_drew ?_ | refine blk_alloc ?_ _)); refine blk_put (cs := #[.int .i64 t322, .string (⟨#[]⟩ : ByteArray), .slice none 0 0, .slice none 0 0, .int .i64 0]) ?_ 1 _ rfl; (with_reducible repeat (first | refine blk_drewN ?_ _ | refine blk_drew ?_ | refine blk_alloc ?_ _)); refine blk_put (cs := #[.int .i64 0, .string (⟨#[]⟩ : ByteArray), .slice none 0 0, .slice none 0 0, .int .i64 0]) ?_ 0 _ rfl; (with_reducible repeat (first | refine blk_drewN ?_ _ | refine blk_drew ?_ | refine blk_alloc ?_ _)); exact BK331.out⟩
      have n9_ : Aside0 (Below w.heap.size w (((((w21.setCell ⟨gb331, 0, none⟩ (.int .i64 t322)).setCell ⟨gb331, 1, none⟩ (.string t323)).setCell ⟨gb331, 2, none⟩ (.slice Ao25 t324.length co25)).setCell ⟨gb331, 3, none⟩ (.slice Ao26 t327.length co26)).setCell ⟨gb331, 4, none⟩ (.int .i64 t330))) := ⟨(q8_ HB.out GE320.out GE321.out GE331.out)⟩
      (try clear HO306)
      (try clear HO309)
      (try clear HO315)
      (try clear HO318)
      (try clear HO326)
      (try clear HO329)
      (try clear BK320)
      (try clear BK321)
      (try clear BK331)
      (try clear HB)
      generalize (((((w21.setCell ⟨gb331, 0, none⟩ (.int .i64 t322)).setCell ⟨gb331, 1, none⟩ (.string t323)).setCell ⟨gb331, 2, none⟩ (.slice Ao25 t324.length co25)).setCell ⟨gb331, 3, none⟩ (.slice Ao26 t327.length co26)).setCell ⟨gb331, 4, none⟩ (.int .i64 t330)) = w53 at n0_ n1_ n2_ n3_ n4_ n5_ n6_ n7_ n8_ n9_ ⊢
      have HO306 := n0_
      have HO309 := n1_
      have HO315 := n2_
      have HO318 := n3_
      have HO326 := n4_
      have HO329 := n5_
      have BK320 := n6_
      have BK321 := n7_
      have BK331 := n8_
      have HB := n9_
      clear n0_ n1_ n2_ n3_ n4_ n5_ n6_ n7_ n8_ n9_
      have n0_ := Aside0.mk (Kd.R_drew HO306.out)
      have n1_ := Aside0.mk (Kd.R_drew HO309.out)
      have n2_ := Aside0.mk (Kd.R_drew HO315.out)
      have n3_ := Aside0.mk (Kd.R_drew HO318.out)
      have n4_ := Aside0.mk (Kd.R_drew HO326.out)
      have n5_ := Aside0.mk (Kd.R_drew HO329.out)
      have n6_ := Aside0.mk (blk_drew BK320.out)
      have n7_ := Aside0.mk (blk_drew BK321.out)
      have n8_ := Aside0.mk (blk_drew BK331.out)
      have n9_ := Aside0.mk (below_drew1 HB.out)
      clear HO306
      clear HO309
      clear HO315
      clear HO318
      clear HO326
      clear HO329
      clear BK320
      clear BK321
      clear BK331
      clear HB
      have HO306 := n0_
      have HO309 := n1_
      have HO315 := n2_
      have HO318 := n3_
      have HO326 := n4_
      have HO329 := n5_
      have BK320 := n6_
      have BK321 := n7_
      have BK331 := n8_
      have HB := n9_
      clear n0_ n1_ n2_ n3_ n4_ n5_ n6_ n7_ n8_ n9_
      refine start_ (n := 36) (S := fun w' => w'.cell? ⟨gb320, 0, none⟩ = some (.int .i64 t302) ∧ w'.cell? ⟨gb320, 1, none⟩ = some (.string t303) ∧ w'.cell? ⟨gb320, 2, none⟩ = some (.slice Ao15 t304.length co15) ∧ w'.cell? ⟨gb320, 3, none⟩ = some (.slice Ao16 t307.length co16) ∧ w'.cell? ⟨gb320, 4, none⟩ = some (.int .i64 t310) ∧ w'.cell? ⟨gb321, 0, none⟩ = some (.int .i64 t311) ∧ w'.cell? ⟨gb321, 1, none⟩ = some (.string t312) ∧ w'.cell? ⟨gb321, 2, none⟩ = some (.slice Ao18 t313.length co18) ∧ w'.cell? ⟨gb321, 3, none⟩ = some (.slice Ao19 t316.length co19) ∧ w'.cell? ⟨gb321, 4, none⟩ = some (.int .i64 t319) ∧ w'.cell? ⟨gb331, 0, none⟩ = some (.int .i64 t322) ∧ w'.cell? ⟨gb331, 1, none⟩ = some (.string t323) ∧ w'.cell? ⟨gb331, 2, none⟩ = some (.slice Ao25 t324.length co25) ∧ w'.cell? ⟨gb331, 3, none⟩ = some (.slice Ao26 t327.length co26) ∧ w'.cell? ⟨gb331, 4, none⟩ = some (.int .i64 t330)) (ds := []) (ml_ 36 0) (by kernel_rfl) rfl rfl ⟨(blk_cell BK320.out 0).trans rfl, (blk_cell BK320.out 1).trans rfl, (blk_cell BK320.out 2).trans rfl, (blk_cell BK320.out 3).trans rfl, (blk_cell BK320.out 4).trans rfl, (blk_cell BK321.out 0).trans rfl, (blk_cell BK321.out 1).trans rfl, (blk_cell BK321.out 2).trans rfl, (blk_cell BK321.out 3).trans rfl, (blk_cell BK321.out 4).trans rfl, (blk_cell BK331.out 0).trans rfl, (blk_cell BK331.out 1).trans rfl, (blk_cell BK331.out 2).trans rfl, (blk_cell BK331.out 3).trans rfl, (blk_cell BK331.out 4).trans rfl⟩ (fun hHeld => ?_); refine with_tabW caravanlaw5_ItemMade.tab3 caravanlaw5_ItemMade.bits3 (fun HT_ HW_ => ?_)
      generalize w53.drew = w54 at HO306 HO309 HO315 HO318 HO326 HO329 BK320 BK321 BK331 HB hHeld ⊢
      refine t15_ 0 22 (ml_ 36 1) rfl rfl HT_.out HW_.out hHeld ?_
      refine one_ (i := 1) (N := some 23) (ml_ 36 3) rfl rfl (one_of HT_.out (by kernel_rfl)) (by decide) (fun K hK => ?_)
      refine goes_ Try.func9 (by kernel_rfl) rfl #[.agg #[.int .i64 t302, .string t303, .slice Ao15 t304.length co15, .slice Ao16 t307.length co16, .int .i64 t310]] (by rfl) rfl rfl qM_ ?_
      with_reducible refine (item_May.calls t302 t303 _ _ t304 _ _ t307 t310 true _ ?side1 ?side2 ?side3 ?side4 A27.out).mono ?_
      (case side1 => exact qC_ ((Kd.R_reads' HO306.out).2.2))
      (case side2 => exact (Kd.R_reads' HO306.out).2.1)
      (case side3 => exact qC_ ((Kd.R_reads' HO309.out).2.2))
      (case side4 => exact (Kd.R_reads' HO309.out).2.1)
      rintro e w55 ⟨rfl, hb⟩
      refine ⟨_, rfl, ?_⟩
      have n0_ := Aside0.mk (Kd.R_below (q1_ HO306.out) hb)
      have n1_ := Aside0.mk (Kd.R_below (q1_ HO309.out) hb)
      have n2_ := Aside0.mk (Kd.R_below (q1_ HO315.out) hb)
      have n3_ := Aside0.mk (Kd.R_below (q1_ HO318.out) hb)
      have n4_ := Aside0.mk (Kd.R_below (q1_ HO326.out) hb)
      have n5_ := Aside0.mk (Kd.R_below (q1_ HO329.out) hb)
      have n6_ := Aside0.mk (blk_below (g := gb320) (o := .cells #[.int .i64 t302, .string t303, .slice Ao15 t304.length co15, .slice Ao16 t307.length co16, .int .i64 t310] 26 (0, 0)) (q3_ BK320.out) hb)
      have n7_ := Aside0.mk (blk_below (g := gb321) (o := .cells #[.int .i64 t311, .string t312, .slice Ao18 t313.length co18, .slice Ao19 t316.length co19, .int .i64 t319] 26 (0, 0)) (q3_ BK321.out) hb)
      have n8_ := Aside0.mk (blk_below (g := gb331) (o := .cells #[.int .i64 t322, .string t323, .slice Ao25 t324.length co25, .slice Ao26 t327.length co26, .int .i64 t330] 26 (0, 0)) (q3_ BK331.out) hb)
      have n9_ := Aside0.mk (below_step (q8_ HB.out GE320.out GE321.out GE331.out) hb)
      clear HO306
      clear HO309
      clear HO315
      clear HO318
      clear HO326
      clear HO329
      clear BK320
      clear BK321
      clear BK331
      clear HB
      have HO306 := n0_
      have HO309 := n1_
      have HO315 := n2_
      have HO318 := n3_
      have HO326 := n4_
      have HO329 := n5_
      have BK320 := n6_
      have BK321 := n7_
      have BK331 := n8_
      have HB := n9_
      clear n0_ n1_ n2_ n3_ n4_ n5_ n6_ n7_ n8_ n9_
      (try clear hb)
      (try clear hb2)
      (try clear hk)
      (try clear hi)
      refine hK.out _ _ ⟨(blk_cell BK320.out 0).trans rfl, (blk_cell BK320.out 1).trans rfl, (blk_cell BK320.out 2).trans rfl, (blk_cell BK320.out 3).trans rfl, (blk_cell BK320.out 4).trans rfl, (blk_cell BK321.out 0).trans rfl, (blk_cell BK321.out 1).trans rfl, (blk_cell BK321.out 2).trans rfl, (blk_cell BK321.out 3).trans rfl, (blk_cell BK321.out 4).trans rfl, (blk_cell BK331.out 0).trans rfl, (blk_cell BK331.out 1).trans rfl, (blk_cell BK331.out 2).trans rfl, (blk_cell BK331.out 3).trans rfl, (blk_cell BK331.out 4).trans rfl⟩ (fun hHeld => ?_)
      clear hK K
      refine nA_ 23 ?_
      refine pA_ 2 24 (ml_ 36 7) rfl rfl HT_.out ?_
      refine pA_ 3 25 (ml_ 36 15) rfl rfl HT_.out ?_
      refine t15_ 4 26 (ml_ 36 31) rfl rfl HT_.out HW_.out hHeld ?_
      refine t15_ 5 27 (ml_ 36 63) rfl rfl HT_.out HW_.out hHeld ?_
      refine t15_ 7 29 (ml_ 36 191) rfl rfl HT_.out HW_.out hHeld ?_
      refine t15_ 8 30 (ml_ 36 447) rfl rfl HT_.out HW_.out hHeld ?_
      refine one_ (i := 6) (N := some 28) (ml_ 36 511) rfl rfl (one_of HT_.out (by kernel_rfl)) (by decide) (fun K hK => ?_)
      refine goes_ Try.func17 (by kernel_rfl) rfl #[.agg #[.int .i64 t302, .string t303, .slice Ao15 t304.length co15, .slice Ao16 t307.length co16, .int .i64 t310], .agg #[.int .i64 t311, .string t312, .slice Ao18 t313.length co18, .slice Ao19 t316.length co19, .int .i64 t319]] (by rfl) rfl rfl qM_ ?_
      with_reducible refine (item_Same.calls k t302 t303 _ _ t304 _ _ t307 t310 t311 t312 _ _ t313 _ _ t316 t319 t333 _ ?side1 ?side2 ?side3 ?side4 ?side5 ?side6 ?side7 ?side8 A29.out).mono ?_
      (case side1 => exact qC_ ((Kd.R_reads' HO306.out).2.2))
      (case side2 => exact (Kd.R_reads' HO306.out).2.1)
      (case side3 => exact qC_ ((Kd.R_reads' HO309.out).2.2))
      (case side4 => exact (Kd.R_reads' HO309.out).2.1)
      (case side5 => exact qC_ ((Kd.R_reads' HO315.out).2.2))
      (case side6 => exact (Kd.R_reads' HO315.out).2.1)
      (case side7 => exact qC_ ((Kd.R_reads' HO318.out).2.2))
      (case side8 => exact (Kd.R_reads' HO318.out).2.1)
      rintro e w56 ⟨rfl, hb⟩
      refine ⟨_, rfl, ?_⟩
      have n0_ := Aside0.mk (Kd.R_below (q1_ HO306.out) hb)
      have n1_ := Aside0.mk (Kd.R_below (q1_ HO309.out) hb)
      have n2_ := Aside0.mk (Kd.R_below (q1_ HO315.out) hb)
      have n3_ := Aside0.mk (Kd.R_below (q1_ HO318.out) hb)
      have n4_ := Aside0.mk (Kd.R_below (q1_ HO326.out) hb)
      have n5_ := Aside0.mk (Kd.R_below (q1_ HO329.out) hb)
      have n6_ := Aside0.mk (blk_below (g := gb320) (o := .cells #[.int .i64 t302, .string t303, .slice Ao15 t304.length co15, .slice Ao16 t307.length co16, .int .i64 t310] 26 (0, 0)) (q3_ BK320.out) hb)
      have n7_ := Aside0.mk (blk_below (g := gb321) (o := .cells #[.int .i64 t311, .string t312, .slice Ao18 t313.length co18, .slice Ao19 t316.length co19, .int .i64 t319] 26 (0, 0)) (q3_ BK321.out) hb)
      have n8_ := Aside0.mk (blk_below (g := gb331) (o := .cells #[.int .i64 t322, .string t323, .slice Ao25 t324.length co25, .slice Ao26 t327.length co26, .int .i64 t330] 26 (0, 0)) (q3_ BK331.out) hb)
      have n9_ := Aside0.mk (below_step (q8_ HB.out GE320.out GE321.out GE331.out) hb)
      clear HO306
      clear HO309
      clear HO315
      clear HO318
      clear HO326
      clear HO329
      clear BK320
      clear BK321
      clear BK331
      clear HB
      have HO306 := n0_
      have HO309 := n1_
      have HO315 := n2_
      have HO318 := n3_
      have HO326 := n4_
      have HO329 := n5_
      have BK320 := n6_
      have BK321 := n7_
      have BK331 := n8_
      have HB := n9_
      clear n0_ n1_ n2_ n3_ n4_ n5_ n6_ n7_ n8_ n9_
      (try clear hb)
      (try clear hb2)
      (try clear hk)
      (try clear hi)
      refine hK.out _ _ ⟨(blk_cell BK320.out 0).trans rfl, (blk_cell BK320.out 1).trans rfl, (blk_cell BK320.out 2).trans rfl, (blk_cell BK320.out 3).trans rfl, (blk_cell BK320.out 4).trans rfl, (blk_cell BK321.out 0).trans rfl, (blk_cell BK321.out 1).trans rfl, (blk_cell BK321.out 2).trans rfl, (blk_cell BK321.out 3).trans rfl, (blk_cell BK321.out 4).trans rfl, (blk_cell BK331.out 0).trans rfl, (blk_cell BK331.out 1).trans rfl, (blk_cell BK331.out 2).trans rfl, (blk_cell BK331.out 3).trans rfl, (blk_cell BK331.out 4).trans rfl⟩ (fun hHeld => ?_)
      clear hK K
      refine nA_ 28 ?_
      refine one_ (i := 9) (N := some 31) (ml_ 36 1023) rfl rfl (one_of HT_.out (by kernel_rfl)) (by decide) (fun K hK => ?_)
      refine goes_ Try.func18 (by kernel_rfl) rfl #[.agg #[.int .i64 t302, .string t303, .slice Ao15 t304.length co15, .slice Ao16 t307.length co16, .int .i64 t310], .agg #[.int .i64 t311, .string t312, .slice Ao18 t313.length co18, .slice Ao19 t316.length co19, .int .i64 t319]] (by rfl) rfl rfl qM_ ?_
      with_reducible refine (caravanref5_SameItem.calls k t302 t303 _ _ t304 _ _ t307 t310 t311 t312 _ _ t313 _ _ t316 t319 t334 _ ?side1 ?side2 ?side3 ?side4 ?side5 ?side6 ?side7 ?side8 A30.out).mono ?_
      (case side1 => exact qC_ ((Kd.R_reads' HO306.out).2.2))
      (case side2 => exact (Kd.R_reads' HO306.out).2.1)
      (case side3 => exact qC_ ((Kd.R_reads' HO309.out).2.2))
      (case side4 => exact (Kd.R_reads' HO309.out).2.1)
      (case side5 => exact qC_ ((Kd.R_reads' HO315.out).2.2))
      (case side6 => exact (Kd.R_reads' HO315.out).2.1)
      (case side7 => exact qC_ ((Kd.R_reads' HO318.out).2.2))
      (case side8 => exact (Kd.R_reads' HO318.out).2.1)
      rintro e w57 ⟨rfl, hb⟩
      refine ⟨_, rfl, ?_⟩
      have n0_ := Aside0.mk (Kd.R_below (q1_ HO306.out) hb)
      have n1_ := Aside0.mk (Kd.R_below (q1_ HO309.out) hb)
      have n2_ := Aside0.mk (Kd.R_below (q1_ HO315.out) hb)
      have n3_ := Aside0.mk (Kd.R_below (q1_ HO318.out) hb)
      have n4_ := Aside0.mk (Kd.R_below (q1_ HO326.out) hb)
      have n5_ := Aside0.mk (Kd.R_below (q1_ HO329.out) hb)
      have n6_ := Aside0.mk (blk_below (g := gb320) (o := .cells #[.int .i64 t302, .string t303, .slice Ao15 t304.length co15, .slice Ao16 t307.length co16, .int .i64 t310] 26 (0, 0)) (q3_ BK320.out) hb)
      have n7_ := Aside0.mk (blk_below (g := gb321) (o := .cells #[.int .i64 t311, .string t312, .slice Ao18 t313.length co18, .slice Ao19 t316.length co19, .int .i64 t319] 26 (0, 0)) (q3_ BK321.out) hb)
      have n8_ := Aside0.mk (blk_below (g := gb331) (o := .cells #[.int .i64 t322, .string t323, .slice Ao25 t324.length co25, .slice Ao26 t327.length co26, .int .i64 t330] 26 (0, 0)) (q3_ BK331.out) hb)
      have n9_ := Aside0.mk (below_step (q8_ HB.out GE320.out GE321.out GE331.out) hb)
      clear HO306
      clear HO309
      clear HO315
      clear HO318
      clear HO326
      clear HO329
      clear BK320
      clear BK321
      clear BK331
      clear HB
      have HO306 := n0_
      have HO309 := n1_
      have HO315 := n2_
      have HO318 := n3_
      have HO326 := n4_
      have HO329 := n5_
      have BK320 := n6_
      have BK321 := n7_
      have BK331 := n8_
      have HB := n9_
      clear n0_ n1_ n2_ n3_ n4_ n5_ n6_ n7_ n8_ n9_
      (try clear hb)
      (try clear hb2)
      (try clear hk)
      (try clear hi)
      refine hK.out _ _ ⟨(blk_cell BK320.out 0).trans rfl, (blk_cell BK320.out 1).trans rfl, (blk_cell BK320.out 2).trans rfl, (blk_cell BK320.out 3).trans rfl, (blk_cell BK320.out 4).trans rfl, (blk_cell BK321.out 0).trans rfl, (blk_cell BK321.out 1).trans rfl, (blk_cell BK321.out 2).trans rfl, (blk_cell BK321.out 3).trans rfl, (blk_cell BK321.out 4).trans rfl, (blk_cell BK331.out 0).trans rfl, (blk_cell BK331.out 1).trans rfl, (blk_cell BK331.out 2).trans rfl, (blk_cell BK331.out 3).trans rfl, (blk_cell BK331.out 4).trans rfl⟩ (fun hHeld => ?_)
      clear hK K
      refine nA_ 31 ?_
      refine pA_ 10 32 (ml_ 36 2047) rfl rfl HT_.out ?_
      refine pA_ 11 33 (ml_ 36 4095) rfl rfl HT_.out ?_
      refine pA_ 12 34 (ml_ 36 8191) rfl rfl HT_.out ?_
      refine t15_ 13 35 (ml_ 36 16383) rfl rfl HT_.out HW_.out hHeld ?_
      refine t15_ 15 37 (ml_ 36 49151) rfl rfl HT_.out HW_.out hHeld ?_
      refine one_ (i := 14) (N := some 36) (ml_ 36 65535) rfl rfl (one_of HT_.out (by kernel_rfl)) (by decide) (fun K hK => ?_)
      refine goes_ Try.func15 (by kernel_rfl) rfl #[.agg #[.int .i64 t302, .string t303, .slice Ao15 t304.length co15, .slice Ao16 t307.length co16, .int .i64 t310]] (by rfl) rfl rfl qM_ ?_
      with_reducible refine (item_Type.calls t302 t303 _ _ t304 _ _ t307 t310 t335 _ ?side1 ?side2 ?side3 ?side4 A37.out).mono ?_
      (case side1 => exact qC_ ((Kd.R_reads' HO306.out).2.2))
      (case side2 => exact (Kd.R_reads' HO306.out).2.1)
      (case side3 => exact qC_ ((Kd.R_reads' HO309.out).2.2))
      (case side4 => exact (Kd.R_reads' HO309.out).2.1)
      rintro e w58 ⟨rfl, hb⟩
      refine ⟨_, rfl, ?_⟩
      have n0_ := Aside0.mk (Kd.R_below (q1_ HO306.out) hb)
      have n1_ := Aside0.mk (Kd.R_below (q1_ HO309.out) hb)
      have n2_ := Aside0.mk (Kd.R_below (q1_ HO315.out) hb)
      have n3_ := Aside0.mk (Kd.R_below (q1_ HO318.out) hb)
      have n4_ := Aside0.mk (Kd.R_below (q1_ HO326.out) hb)
      have n5_ := Aside0.mk (Kd.R_below (q1_ HO329.out) hb)
      have n6_ := Aside0.mk (blk_below (g := gb320) (o := .cells #[.int .i64 t302, .string t303, .slice Ao15 t304.length co15, .slice Ao16 t307.length co16, .int .i64 t310] 26 (0, 0)) (q3_ BK320.out) hb)
      have n7_ := Aside0.mk (blk_below (g := gb321) (o := .cells #[.int .i64 t311, .string t312, .slice Ao18 t313.length co18, .slice Ao19 t316.length co19, .int .i64 t319] 26 (0, 0)) (q3_ BK321.out) hb)
      have n8_ := Aside0.mk (blk_below (g := gb331) (o := .cells #[.int .i64 t322, .string t323, .slice Ao25 t324.length co25, .slice Ao26 t327.length co26, .int .i64 t330] 26 (0, 0)) (q3_ BK331.out) hb)
      have n9_ := Aside0.mk (below_step (q8_ HB.out GE320.out GE321.out GE331.out) hb)
      clear HO306
      clear HO309
      clear HO315
      clear HO318
      clear HO326
      clear HO329
      clear BK320
      clear BK321
      clear BK331
      clear HB
      have HO306 := n0_
      have HO309 := n1_
      have HO315 := n2_
      have HO318 := n3_
      have HO326 := n4_
      have HO329 := n5_
      have BK320 := n6_
      have BK321 := n7_
      have BK331 := n8_
      have HB := n9_
      clear n0_ n1_ n2_ n3_ n4_ n5_ n6_ n7_ n8_ n9_
      (try clear hb)
      (try clear hb2)
      (try clear hk)
      (try clear hi)
      refine hK.out _ _ ⟨(blk_cell BK320.out 0).trans rfl, (blk_cell BK320.out 1).trans rfl, (blk_cell BK320.out 2).trans rfl, (blk_cell BK320.out 3).trans rfl, (blk_cell BK320.out 4).trans rfl, (blk_cell BK321.out 0).trans rfl, (blk_cell BK321.out 1).trans rfl, (blk_cell BK321.out 2).trans rfl, (blk_cell BK321.out 3).trans rfl, (blk_cell BK321.out 4).trans rfl, (blk_cell BK331.out 0).trans rfl, (blk_cell BK331.out 1).trans rfl, (blk_cell BK331.out 2).trans rfl, (blk_cell BK331.out 3).trans rfl, (blk_cell BK331.out 4).trans rfl⟩ (fun hHeld => ?_)
      clear hK K
      refine nA_ 36 ?_
      refine one_ (i := 16) (N := some 38) (ml_ 36 131071) rfl rfl (one_of HT_.out (by kernel_rfl)) (by decide) (fun K hK => ?_)
      refine goes_ Try.func16 (by kernel_rfl) rfl #[.agg #[.int .i64 t302, .string t303, .slice Ao15 t304.length co15, .slice Ao16 t307.length co16, .int .i64 t310]] (by rfl) rfl rfl qM_ ?_
      with_reducible refine (caravanref5_Type.calls t302 t303 _ _ t304 _ _ t307 t310 t336 _ ?side1 ?side2 ?side3 ?side4 A38.out).mono ?_
      (case side1 => exact qC_ ((Kd.R_reads' HO306.out).2.2))
      (case side2 => exact (Kd.R_reads' HO306.out).2.1)
      (case side3 => exact qC_ ((Kd.R_reads' HO309.out).2.2))
      (case side4 => exact (Kd.R_reads' HO309.out).2.1)
      rintro e w59 ⟨rfl, hb⟩
      refine ⟨_, rfl, ?_⟩
      have n0_ := Aside0.mk (Kd.R_below (q1_ HO306.out) hb)
      have n1_ := Aside0.mk (Kd.R_below (q1_ HO309.out) hb)
      have n2_ := Aside0.mk (Kd.R_below (q1_ HO315.out) hb)
      have n3_ := Aside0.mk (Kd.R_below (q1_ HO318.out) hb)
      have n4_ := Aside0.mk (Kd.R_below (q1_ HO326.out) hb)
      have n5_ := Aside0.mk (Kd.R_below (q1_ HO329.out) hb)
      have n6_ := Aside0.mk (blk_below (g := gb320) (o := .cells #[.int .i64 t302, .string t303, .slice Ao15 t304.length co15, .slice Ao16 t307.length co16, .int .i64 t310] 26 (0, 0)) (q3_ BK320.out) hb)
      have n7_ := Aside0.mk (blk_below (g := gb321) (o := .cells #[.int .i64 t311, .string t312, .slice Ao18 t313.length co18, .slice Ao19 t316.length co19, .int .i64 t319] 26 (0, 0)) (q3_ BK321.out) hb)
      have n8_ := Aside0.mk (blk_below (g := gb331) (o := .cells #[.int .i64 t322, .string t323, .slice Ao25 t324.length co25, .slice Ao26 t327.length co26, .int .i64 t330] 26 (0, 0)) (q3_ BK331.out) hb)
      have n9_ := Aside0.mk (below_step (q8_ HB.out GE320.out GE321.out GE331.out) hb)
      clear HO306
      clear HO309
      clear HO315
      clear HO318
      clear HO326
      clear HO329
      clear BK320
      clear BK321
      clear BK331
      clear HB
      have HO306 := n0_
      have HO309 := n1_
      have HO315 := n2_
      have HO318 := n3_
      have HO326 := n4_
      have HO329 := n5_
      have BK320 := n6_
      have BK321 := n7_
      have BK331 := n8_
      have HB := n9_
      clear n0_ n1_ n2_ n3_ n4_ n5_ n6_ n7_ n8_ n9_
      (try clear hb)
      (try clear hb2)
      (try clear hk)
      (try clear hi)
      refine hK.out _ _ ⟨(blk_cell BK320.out 0).trans rfl, (blk_cell BK320.out 1).trans rfl, (blk_cell BK320.out 2).trans rfl, (blk_cell BK320.out 3).trans rfl, (blk_cell BK320.out 4).trans rfl, (blk_cell BK321.out 0).trans rfl, (blk_cell BK321.out 1).trans rfl, (blk_cell BK321.out 2).trans rfl, (blk_cell BK321.out 3).trans rfl, (blk_cell BK321.out 4).trans rfl, (blk_cell BK331.out 0).trans rfl, (blk_cell BK331.out 1).trans rfl, (blk_cell BK331.out 2).trans rfl, (blk_cell BK331.out 3).trans rfl, (blk_cell BK331.out 4).trans rfl⟩ (fun hHeld => ?_)
      clear hK K
      refine nA_ 38 ?_
      refine pA_ 17 39 (ml_ 36 262143) rfl rfl HT_.out ?_
      refine pA_ 18 40 (ml_ 36 524287) rfl rfl HT_.out ?_
      refine pA_ 19 41 (ml_ 36 1048575) rfl rfl HT_.out ?_
      refine pA_ 21 43 (ml_ 36 3145727) rfl rfl HT_.out ?_
      refine pA_ 22 44 (ml_ 36 7340031) rfl rfl HT_.out ?_
      refine pA_ 25 47 (ml_ 36 40894463) rfl rfl HT_.out ?_
      refine pA_ 26 48 (ml_ 36 108003327) rfl rfl HT_.out ?_
      refine t15_ 20 42 (ml_ 36 109051903) rfl rfl HT_.out HW_.out hHeld ?_
      refine t15_ 24 46 (ml_ 36 125829119) rfl rfl HT_.out HW_.out hHeld ?_
      refine one_ (i := 23) (N := some 45) (ml_ 36 134217727) rfl rfl (one_of HT_.out (by kernel_rfl)) (by decide) (fun K hK => ?_)
      refine goes_ Try.func13 (by kernel_rfl) rfl #[.agg #[.int .i64 t302, .string t303, .slice Ao15 t304.length co15, .slice Ao16 t307.length co16, .int .i64 t310], .int .i64 (wrap64 (a3))] (by rfl) rfl rfl qM_ ?_
      with_reducible refine (item_Alive.calls t302 t303 _ _ t304 _ _ t307 t310 (wrap64 (a3)) t337 _ ?side1 ?side2 ?side3 ?side4 A40.out).mono ?_
      (case side1 => exact qC_ ((Kd.R_reads' HO306.out).2.2))
      (case side2 => exact (Kd.R_reads' HO306.out).2.1)
      (case side3 => exact qC_ ((Kd.R_reads' HO309.out).2.2))
      (case side4 => exact (Kd.R_reads' HO309.out).2.1)
      rintro e w60 ⟨rfl, hb⟩
      refine ⟨_, rfl, ?_⟩
      have n0_ := Aside0.mk (Kd.R_below (q1_ HO306.out) hb)
      have n1_ := Aside0.mk (Kd.R_below (q1_ HO309.out) hb)
      have n2_ := Aside0.mk (Kd.R_below (q1_ HO315.out) hb)
      have n3_ := Aside0.mk (Kd.R_below (q1_ HO318.out) hb)
      have n4_ := Aside0.mk (Kd.R_below (q1_ HO326.out) hb)
      have n5_ := Aside0.mk (Kd.R_below (q1_ HO329.out) hb)
      have n6_ := Aside0.mk (blk_below (g := gb320) (o := .cells #[.int .i64 t302, .string t303, .slice Ao15 t304.length co15, .slice Ao16 t307.length co16, .int .i64 t310] 26 (0, 0)) (q3_ BK320.out) hb)
      have n7_ := Aside0.mk (blk_below (g := gb321) (o := .cells #[.int .i64 t311, .string t312, .slice Ao18 t313.length co18, .slice Ao19 t316.length co19, .int .i64 t319] 26 (0, 0)) (q3_ BK321.out) hb)
      have n8_ := Aside0.mk (blk_below (g := gb331) (o := .cells #[.int .i64 t322, .string t323, .slice Ao25 t324.length co25, .slice Ao26 t327.length co26, .int .i64 t330] 26 (0, 0)) (q3_ BK331.out) hb)
      have n9_ := Aside0.mk (below_step (q8_ HB.out GE320.out GE321.out GE331.out) hb)
      clear HO306
      clear HO309
      clear HO315
      clear HO318
      clear HO326
      clear HO329
      clear BK320
      clear BK321
      clear BK331
      clear HB
      have HO306 := n0_
      have HO309 := n1_
      have HO315 := n2_
      have HO318 := n3_
      have HO326 := n4_
      have HO329 := n5_
      have BK320 := n6_
      have BK321 := n7_
      have BK331 := n8_
      have HB := n9_
      clear n0_ n1_ n2_ n3_ n4_ n5_ n6_ n7_ n8_ n9_
      (try clear hb)
      (try clear hb2)
      (try clear hk)
      (try clear hi)
      refine hK.out _ _ ⟨(blk_cell BK320.out 0).trans rfl, (blk_cell BK320.out 1).trans rfl, (blk_cell BK320.out 2).trans rfl, (blk_cell BK320.out 3).trans rfl, (blk_cell BK320.out 4).trans rfl, (blk_cell BK321.out 0).trans rfl, (blk_cell BK321.out 1).trans rfl, (blk_cell BK321.out 2).trans rfl, (blk_cell BK321.out 3).trans rfl, (blk_cell BK321.out 4).trans rfl, (blk_cell BK331.out 0).trans rfl, (blk_cell BK331.out 1).trans rfl, (blk_cell BK331.out 2).trans rfl, (blk_cell BK331.out 3).trans rfl, (blk_cell BK331.out 4).trans rfl⟩ (fun hHeld => ?_)
      clear hK K
      refine nA_ 45 ?_
      refine one_ (i := 27) (N := some 49) (ml_ 36 268435455) rfl rfl (one_of HT_.out (by kernel_rfl)) (by decide) (fun K hK => ?_)
      refine goes_ Try.func14 (by kernel_rfl) rfl #[.agg #[.int .i64 t302, .string t303, .slice Ao15 t304.length co15, .slice Ao16 t307.length co16, .int .i64 t310], .int .i64 (wrap64 (a3))] (by rfl) rfl rfl qM_ ?_
      with_reducible refine (caravanref5_Alive.calls t302 t303 _ _ t304 _ _ t307 t310 (wrap64 (a3)) t338 _ ?side1 ?side2 ?side3 ?side4 A41.out).mono ?_
      (case side1 => exact qC_ ((Kd.R_reads' HO306.out).2.2))
      (case side2 => exact (Kd.R_reads' HO306.out).2.1)
      (case side3 => exact qC_ ((Kd.R_reads' HO309.out).2.2))
      (case side4 => exact (Kd.R_reads' HO309.out).2.1)
      rintro e w61 ⟨rfl, hb⟩
      refine ⟨_, rfl, ?_⟩
      have n0_ := Aside0.mk (Kd.R_below (q1_ HO306.out) hb)
      have n1_ := Aside0.mk (Kd.R_below (q1_ HO309.out) hb)
      have n2_ := Aside0.mk (Kd.R_below (q1_ HO315.out) hb)
      have n3_ := Aside0.mk (Kd.R_below (q1_ HO318.out) hb)
      have n4_ := Aside0.mk (Kd.R_below (q1_ HO326.out) hb)
      have n5_ := Aside0.mk (Kd.R_below (q1_ HO329.out) hb)
      have n6_ := Aside0.mk (blk_below (g := gb320) (o := .cells #[.int .i64 t302, .string t303, .slice Ao15 t304.length co15, .slice Ao16 t307.length co16, .int .i64 t310] 26 (0, 0)) (q3_ BK320.out) hb)
      have n7_ := Aside0.mk (blk_below (g := gb321) (o := .cells #[.int .i64 t311, .string t312, .slice Ao18 t313.length co18, .slice Ao19 t316.length co19, .int .i64 t319] 26 (0, 0)) (q3_ BK321.out) hb)
      have n8_ := Aside0.mk (blk_below (g := gb331) (o := .cells #[.int .i64 t322, .string t323, .slice Ao25 t324.length co25, .slice Ao26 t327.length co26, .int .i64 t330] 26 (0, 0)) (q3_ BK331.out) hb)
      have n9_ := Aside0.mk (below_step (q8_ HB.out GE320.out GE321.out GE331.out) hb)
      clear HO306
      clear HO309
      clear HO315
      clear HO318
      clear HO326
      clear HO329
      clear BK320
      clear BK321
      clear BK331
      clear HB
      have HO306 := n0_
      have HO309 := n1_
      have HO315 := n2_
      have HO318 := n3_
      have HO326 := n4_
      have HO329 := n5_
      have BK320 := n6_
      have BK321 := n7_
      have BK331 := n8_
      have HB := n9_
      clear n0_ n1_ n2_ n3_ n4_ n5_ n6_ n7_ n8_ n9_
      (try clear hb)
      (try clear hb2)
      (try clear hk)
      (try clear hi)
      refine hK.out _ _ ⟨(blk_cell BK320.out 0).trans rfl, (blk_cell BK320.out 1).trans rfl, (blk_cell BK320.out 2).trans rfl, (blk_cell BK320.out 3).trans rfl, (blk_cell BK320.out 4).trans rfl, (blk_cell BK321.out 0).trans rfl, (blk_cell BK321.out 1).trans rfl, (blk_cell BK321.out 2).trans rfl, (blk_cell BK321.out 3).trans rfl, (blk_cell BK321.out 4).trans rfl, (blk_cell BK331.out 0).trans rfl, (blk_cell BK331.out 1).trans rfl, (blk_cell BK331.out 2).trans rfl, (blk_cell BK331.out 3).trans rfl, (blk_cell BK331.out 4).trans rfl⟩ (fun hHeld => ?_)
      clear hK K
      refine nA_ 49 ?_
      refine pA_ 28 50 (ml_ 36 536870911) rfl rfl HT_.out ?_
      refine pA_ 29 51 (ml_ 36 1073741823) rfl rfl HT_.out ?_
      refine pA_ 30 52 (ml_ 36 2147483647) rfl rfl HT_.out ?_
      refine t15_ 31 53 (ml_ 36 4294967295) rfl rfl HT_.out HW_.out hHeld ?_
      refine t15_ 32 54 (ml_ 36 8589934591) rfl rfl HT_.out HW_.out hHeld ?_
      refine one_ (i := 33) (N := some 55) (ml_ 36 17179869183) rfl rfl (one_of HT_.out (by kernel_rfl)) (by decide) (fun K hK => ?_)
      refine goes_ Try.func18 (by kernel_rfl) rfl #[.agg #[.int .i64 t322, .string t323, .slice Ao25 t324.length co25, .slice Ao26 t327.length co26, .int .i64 t330], .agg #[.int .i64 t302, .string t303, .slice Ao15 t304.length co15, .slice Ao16 t307.length co16, .int .i64 t310]] (by rfl) rfl rfl qM_ ?_
      with_reducible refine (caravanref5_SameItem.calls k t322 t323 _ _ t324 _ _ t327 t330 t302 t303 _ _ t304 _ _ t307 t310 t339 _ ?side1 ?side2 ?side3 ?side4 ?side5 ?side6 ?side7 ?side8 A52.out).mono ?_
      (case side1 => exact qC_ ((Kd.R_reads' HO326.out).2.2))
      (case side2 => exact (Kd.R_reads' HO326.out).2.1)
      (case side3 => exact qC_ ((Kd.R_reads' HO329.out).2.2))
      (case side4 => exact (Kd.R_reads' HO329.out).2.1)
      (case side5 => exact qC_ ((Kd.R_reads' HO306.out).2.2))
      (case side6 => exact (Kd.R_reads' HO306.out).2.1)
      (case side7 => exact qC_ ((Kd.R_reads' HO309.out).2.2))
      (case side8 => exact (Kd.R_reads' HO309.out).2.1)
      rintro e w62 ⟨rfl, hb⟩
      refine ⟨_, rfl, ?_⟩
      have n0_ := Aside0.mk (Kd.R_below (q1_ HO306.out) hb)
      have n1_ := Aside0.mk (Kd.R_below (q1_ HO309.out) hb)
      have n2_ := Aside0.mk (Kd.R_below (q1_ HO315.out) hb)
      have n3_ := Aside0.mk (Kd.R_below (q1_ HO318.out) hb)
      have n4_ := Aside0.mk (Kd.R_below (q1_ HO326.out) hb)
      have n5_ := Aside0.mk (Kd.R_below (q1_ HO329.out) hb)
      have n6_ := Aside0.mk (blk_below (g := gb320) (o := .cells #[.int .i64 t302, .string t303, .slice Ao15 t304.length co15, .slice Ao16 t307.length co16, .int .i64 t310] 26 (0, 0)) (q3_ BK320.out) hb)
      have n7_ := Aside0.mk (blk_below (g := gb321) (o := .cells #[.int .i64 t311, .string t312, .slice Ao18 t313.length co18, .slice Ao19 t316.length co19, .int .i64 t319] 26 (0, 0)) (q3_ BK321.out) hb)
      have n8_ := Aside0.mk (blk_below (g := gb331) (o := .cells #[.int .i64 t322, .string t323, .slice Ao25 t324.length co25, .slice Ao26 t327.length co26, .int .i64 t330] 26 (0, 0)) (q3_ BK331.out) hb)
      have n9_ := Aside0.mk (below_step (q8_ HB.out GE320.out GE321.out GE331.out) hb)
      clear HO306
      clear HO309
      clear HO315
      clear HO318
      clear HO326
      clear HO329
      clear BK320
      clear BK321
      clear BK331
      clear HB
      have HO306 := n0_
      have HO309 := n1_
      have HO315 := n2_
      have HO318 := n3_
      have HO326 := n4_
      have HO329 := n5_
      have BK320 := n6_
      have BK321 := n7_
      have BK331 := n8_
      have HB := n9_
      clear n0_ n1_ n2_ n3_ n4_ n5_ n6_ n7_ n8_ n9_
      (try clear hb)
      (try clear hb2)
      (try clear hk)
      (try clear hi)
      refine hK.out _ _ ⟨(blk_cell BK320.out 0).trans rfl, (blk_cell BK320.out 1).trans rfl, (blk_cell BK320.out 2).trans rfl, (blk_cell BK320.out 3).trans rfl, (blk_cell BK320.out 4).trans rfl, (blk_cell BK321.out 0).trans rfl, (blk_cell BK321.out 1).trans rfl, (blk_cell BK321.out 2).trans rfl, (blk_cell BK321.out 3).trans rfl, (blk_cell BK321.out 4).trans rfl, (blk_cell BK331.out 0).trans rfl, (blk_cell BK331.out 1).trans rfl, (blk_cell BK331.out 2).trans rfl, (blk_cell BK331.out 3).trans rfl, (blk_cell BK331.out 4).trans rfl⟩ (fun hHeld => ?_)
      clear hK K
      refine nA_ 55 ?_
      refine pA_ 34 56 (ml_ 36 34359738367) rfl rfl HT_.out ?_
      refine pA_ 35 57 (ml_ 36 68719476735) rfl rfl HT_.out ?_
      refine done_ (done_of HT_.out (by kernel_rfl)) ?_
      try go_wp2
      go_meet
      case rel => exact ⟨_, (!t339), (by first | rfl | (simp; done) | (simp [*]; done)), H', ⟨by first | omega | exact Nat.le_refl _⟩, ⟨by (with_reducible repeat (first | apply Kd.R_alloc | apply Kd.R_drewN | apply Kd.R_drew)); exact HO306.out⟩, ⟨by (with_reducible repeat (first | apply Kd.R_alloc | apply Kd.R_drewN | apply Kd.R_drew)); exact HO309.out⟩, ⟨by (with_reducible repeat (first | apply Kd.R_alloc | apply Kd.R_drewN | apply Kd.R_drew)); exact HO315.out⟩, ⟨by (with_reducible repeat (first | apply Kd.R_alloc | apply Kd.R_drewN | apply Kd.R_drew)); exact HO318.out⟩, ⟨by (with_reducible repeat (first | apply Kd.R_alloc | apply Kd.R_drewN | apply Kd.R_drew)); exact HO326.out⟩, ⟨by (with_reducible repeat (first | apply Kd.R_alloc | apply Kd.R_drewN | apply Kd.R_drew)); exact HO329.out⟩, ⟨by (with_reducible repeat (first | refine blk_drewN ?_ _ | refine blk_drew ?_ | refine blk_alloc ?_ _)); exact BK320.out⟩, ⟨by (with_reducible repeat (first | refine blk_drewN ?_ _ | refine blk_drew ?_ | refine blk_alloc ?_ _)); exact BK321.out⟩, ⟨by (with_reducible repeat (first | refine blk_drewN ?_ _ | refine blk_drew ?_ | refine blk_alloc ?_ _)); exact BK331.out⟩, ⟨(q8_ HB.out GE320.out GE321.out GE331.out)⟩⟩
    ·rw [if_neg c39] at H
     have c39b0 : (t335.toList == t336.toList) = false := beq_eq_false_iff_ne.mpr c39
     have c39b1 : (t335.toList != t336.toList) = true := bne_iff_ne.mpr c39
     have H' := Aside0.mk H
     clear H
     try go_wp2
     have n0_ : Aside0 (Kd.R k29 29 (((((w21.setCell ⟨gb331, 0, none⟩ (.int .i64 t322)).setCell ⟨gb331, 1, none⟩ (.string t323)).setCell ⟨gb331, 2, none⟩ (.slice Ao25 t324.length co25)).setCell ⟨gb331, 3, none⟩ (.slice Ao26 t327.length co26)).setCell ⟨gb331, 4, none⟩ (.int .i64 t330)) w.heap.size (fun k_ => some k_ ≠ (.slice Ao18 t313.length co18 : Value).ownBlock ∧ some k_ ≠ (.slice Ao25 t324.length co25 : Value).ownBlock) (.slice Ao15 t304.length co15) t304) := ⟨by (with_reducible repeat (first | apply Kd.R_alloc | apply Kd.R_drewN | apply Kd.R_drew)); exact Kd.R_mono (Kd.R_far (p := ⟨gb331, 4, none⟩) (Kd.R_far (p := ⟨gb331, 3, none⟩) (Kd.R_far (p := ⟨gb331, 2, none⟩) (Kd.R_far (p := ⟨gb331, 1, none⟩) (Kd.R_far (p := ⟨gb331, 0, none⟩) (Kd.R_types HO306.out BK331.out (by decide)) (fun _ hk => hk.2) (.int .i64 t322)) (fun _ hk => hk.2) (.string t323)) (fun _ hk => hk.2) (.slice Ao25 t324.length co25)) (fun _ hk => hk.2) (.slice Ao26 t327.length co26)) (fun _ hk => hk.2) (.int .i64 t330)) (fun _ hk => ⟨hk.1.1.2, hk.1.2⟩)⟩
     have n1_ : Aside0 (Kd.R Kd.string 9 (((((w21.setCell ⟨gb331, 0, none⟩ (.int .i64 t322)).setCell ⟨gb331, 1, none⟩ (.string t323)).setCell ⟨gb331, 2, none⟩ (.slice Ao25 t324.length co25)).setCell ⟨gb331, 3, none⟩ (.slice Ao26 t327.length co26)).setCell ⟨gb331, 4, none⟩ (.int .i64 t330)) w.heap.size (fun k_ => some k_ ≠ (.slice Ao19 t316.length co19 : Value).ownBlock ∧ some k_ ≠ (.slice Ao26 t327.length co26 : Value).ownBlock) (.slice Ao16 t307.length co16) t307) := ⟨by (with_reducible repeat (first | apply Kd.R_alloc | apply Kd.R_drewN | apply Kd.R_drew)); exact Kd.R_mono (Kd.R_far (p := ⟨gb331, 4, none⟩) (Kd.R_far (p := ⟨gb331, 3, none⟩) (Kd.R_far (p := ⟨gb331, 2, none⟩) (Kd.R_far (p := ⟨gb331, 1, none⟩) (Kd.R_far (p := ⟨gb331, 0, none⟩) (Kd.R_types HO309.out BK331.out (by decide)) (fun _ hk => hk.2) (.int .i64 t322)) (fun _ hk => hk.2) (.string t323)) (fun _ hk => hk.2) (.slice Ao25 t324.length co25)) (fun _ hk => hk.2) (.slice Ao26 t327.length co26)) (fun _ hk => hk.2) (.int .i64 t330)) (fun _ hk => ⟨hk.1.1.2, hk.1.2⟩)⟩
     have n2_ : Aside0 (Kd.R k29 29 (((((w21.setCell ⟨gb331, 0, none⟩ (.int .i64 t322)).setCell ⟨gb331, 1, none⟩ (.string t323)).setCell ⟨gb331, 2, none⟩ (.slice Ao25 t324.length co25)).setCell ⟨gb331, 3, none⟩ (.slice Ao26 t327.length co26)).setCell ⟨gb331, 4, none⟩ (.int .i64 t330)) w.heap.size (fun k_ => some k_ ≠ (.slice Ao15 t304.length co15 : Value).ownBlock ∧ some k_ ≠ (.slice Ao25 t324.length co25 : Value).ownBlock) (.slice Ao18 t313.length co18) t313) := ⟨by (with_reducible repeat (first | apply Kd.R_alloc | apply Kd.R_drewN | apply Kd.R_drew)); exact Kd.R_mono (Kd.R_far (p := ⟨gb331, 4, none⟩) (Kd.R_far (p := ⟨gb331, 3, none⟩) (Kd.R_far (p := ⟨gb331, 2, none⟩) (Kd.R_far (p := ⟨gb331, 1, none⟩) (Kd.R_far (p := ⟨gb331, 0, none⟩) (Kd.R_types HO315.out BK331.out (by decide)) (fun _ hk => hk.2) (.int .i64 t322)) (fun _ hk => hk.2) (.string t323)) (fun _ hk => hk.2) (.slice Ao25 t324.length co25)) (fun _ hk => hk.2) (.slice Ao26 t327.length co26)) (fun _ hk => hk.2) (.int .i64 t330)) (fun _ hk => ⟨hk.1.1.2, hk.1.2⟩)⟩
     have n3_ : Aside0 (Kd.R Kd.string 9 (((((w21.setCell ⟨gb331, 0, none⟩ (.int .i64 t322)).setCell ⟨gb331, 1, none⟩ (.string t323)).setCell ⟨gb331, 2, none⟩ (.slice Ao25 t324.length co25)).setCell ⟨gb331, 3, none⟩ (.slice Ao26 t327.length co26)).setCell ⟨gb331, 4, none⟩ (.int .i64 t330)) w.heap.size (fun k_ => some k_ ≠ (.slice Ao16 t307.length co16 : Value).ownBlock ∧ some k_ ≠ (.slice Ao26 t327.length co26 : Value).ownBlock) (.slice Ao19 t316.length co19) t316) := ⟨by (with_reducible repeat (first | apply Kd.R_alloc | apply Kd.R_drewN | apply Kd.R_drew)); exact Kd.R_mono (Kd.R_far (p := ⟨gb331, 4, none⟩) (Kd.R_far (p := ⟨gb331, 3, none⟩) (Kd.R_far (p := ⟨gb331, 2, none⟩) (Kd.R_far (p := ⟨gb331, 1, none⟩) (Kd.R_far (p := ⟨gb331, 0, none⟩) (Kd.R_types HO318.out BK331.out (by decide)) (fun _ hk => hk.2) (.int .i64 t322)) (fun _ hk => hk.2) (.string t323)) (fun _ hk => hk.2) (.slice Ao25 t324.length co25)) (fun _ hk => hk.2) (.slice Ao26 t327.length co26)) (fun _ hk => hk.2) (.int .i64 t330)) (fun _ hk => ⟨hk.1.1.2, hk.1.2⟩)⟩
     have n4_ : Aside0 (Kd.R k29 29 (((((w21.setCell ⟨gb331, 0, none⟩ (.int .i64 t322)).setCell ⟨gb331, 1, none⟩ (.string t323)).setCell ⟨gb331, 2, none⟩ (.slice Ao25 t324.length co25)).setCell ⟨gb331, 3, none⟩ (.slice Ao26 t327.length co26)).setCell ⟨gb331, 4, none⟩ (.int .i64 t330)) w.heap.size (fun k_ => some k_ ≠ (.slice Ao15 t304.length co15 : Value).ownBlock ∧ some k_ ≠ (.slice Ao18 t313.length co18 : Value).ownBlock) (.slice Ao25 t324.length co25) t324) := ⟨by (with_reducible repeat (first | apply Kd.R_alloc | apply Kd.R_drewN | apply Kd.R_drew)); exact Kd.R_mono (Kd.R_far (p := ⟨gb331, 4, none⟩) (Kd.R_far (p := ⟨gb331, 3, none⟩) (Kd.R_far (p := ⟨gb331, 2, none⟩) (Kd.R_far (p := ⟨gb331, 1, none⟩) (Kd.R_far (p := ⟨gb331, 0, none⟩) (Kd.R_types HO326.out BK331.out (by decide)) (fun _ hk => hk.2) (.int .i64 t322)) (fun _ hk => hk.2) (.string t323)) (fun _ hk => hk.2) (.slice Ao25 t324.length co25)) (fun _ hk => hk.2) (.slice Ao26 t327.length co26)) (fun _ hk => hk.2) (.int .i64 t330)) (fun _ hk => ⟨hk.1.1.2, hk.1.2⟩)⟩
     have n5_ : Aside0 (Kd.R Kd.string 9 (((((w21.setCell ⟨gb331, 0, none⟩ (.int .i64 t322)).setCell ⟨gb331, 1, none⟩ (.string t323)).setCell ⟨gb331, 2, none⟩ (.slice Ao25 t324.length co25)).setCell ⟨gb331, 3, none⟩ (.slice Ao26 t327.length co26)).setCell ⟨gb331, 4, none⟩ (.int .i64 t330)) w.heap.size (fun k_ => some k_ ≠ (.slice Ao16 t307.length co16 : Value).ownBlock ∧ some k_ ≠ (.slice Ao19 t316.length co19 : Value).ownBlock) (.slice Ao26 t327.length co26) t327) := ⟨by (with_reducible repeat (first | apply Kd.R_alloc | apply Kd.R_drewN | apply Kd.R_drew)); exact Kd.R_mono (Kd.R_far (p := ⟨gb331, 4, none⟩) (Kd.R_far (p := ⟨gb331, 3, none⟩) (Kd.R_far (p := ⟨gb331, 2, none⟩) (Kd.R_far (p := ⟨gb331, 1, none⟩) (Kd.R_far (p := ⟨gb331, 0, none⟩) (Kd.R_types HO329.out BK331.out (by decide)) (fun _ hk => hk.2) (.int .i64 t322)) (fun _ hk => hk.2) (.string t323)) (fun _ hk => hk.2) (.slice Ao25 t324.length co25)) (fun _ hk => hk.2) (.slice Ao26 t327.length co26)) (fun _ hk => hk.2) (.int .i64 t330)) (fun _ hk => ⟨hk.1.1.2, hk.1.2⟩)⟩
     have n6_ : Aside0 ((((((w21.setCell ⟨gb331, 0, none⟩ (.int .i64 t322)).setCell ⟨gb331, 1, none⟩ (.string t323)).setCell ⟨gb331, 2, none⟩ (.slice Ao25 t324.length co25)).setCell ⟨gb331, 3, none⟩ (.slice Ao26 t327.length co26)).setCell ⟨gb331, 4, none⟩ (.int .i64 t330)).heap[gb320]? = some (.cells #[.int .i64 t302, .string t303, .slice Ao15 t304.length co15, .slice Ao16 t307.length co16, .int .i64 t310] 26 (0, 0))) := ⟨by (with_reducible repeat (first | refine blk_drewN ?_ _ | refine blk_drew ?_ | refine blk_alloc ?_ _)); refine blk_far ?_ NB320_331.out _; (with_reducible repeat (first | refine blk_drewN ?_ _ | refine blk_drew ?_ | refine blk_alloc ?_ _)); refine blk_far ?_ NB320_331.out _; (with_reducible repeat (first | refine blk_drewN ?_ _ | refine blk_drew ?_ | refine blk_alloc ?_ _)); refine blk_far ?_ NB320_331.out _; (with_reducible repeat (first | refine blk_drewN ?_ _ | refine blk_drew ?_ | refine blk_alloc ?_ _)); refine blk_far ?_ NB320_331.out _; (with_reducible repeat (first | refine blk_drewN ?_ _ | refine blk_drew ?_ | refine blk_alloc ?_ _)); refine blk_far ?_ NB320_331.out _; (with_reducible repeat (first | refine blk_drewN ?_ _ | refine blk_drew ?_ | refine blk_alloc ?_ _)); exact BK320.out⟩
     have n7_ : Aside0 ((((((w21.setCell ⟨gb331, 0, none⟩ (.int .i64 t322)).setCell ⟨gb331, 1, none⟩ (.string t323)).setCell ⟨gb331, 2, none⟩ (.slice Ao25 t324.length co25)).setCell ⟨gb331, 3, none⟩ (.slice Ao26 t327.length co26)).setCell ⟨gb331, 4, none⟩ (.int .i64 t330)).heap[gb321]? = some (.cells #[.int .i64 t311, .string t312, .slice Ao18 t313.length co18, .slice Ao19 t316.length co19, .int .i64 t319] 26 (0, 0))) := ⟨by (with_reducible repeat (first | refine blk_drewN ?_ _ | refine blk_drew ?_ | refine blk_alloc ?_ _)); refine blk_far ?_ NB321_331.out _; (with_reducible repeat (first | refine blk_drewN ?_ _ | refine blk_drew ?_ | refine blk_alloc ?_ _)); refine blk_far ?_ NB321_331.out _; (with_reducible repeat (first | refine blk_drewN ?_ _ | refine blk_drew ?_ | refine blk_alloc ?_ _)); refine blk_far ?_ NB321_331.out _; (with_reducible repeat (first | refine blk_drewN ?_ _ | refine blk_drew ?_ | refine blk_alloc ?_ _)); refine blk_far ?_ NB321_331.out _; (with_reducible repeat (first | refine blk_drewN ?_ _ | refine blk_drew ?_ | refine blk_alloc ?_ _)); refine blk_far ?_ NB321_331.out _; (with_reducible repeat (first | refine blk_drewN ?_ _ | refine blk_drew ?_ | refine blk_alloc ?_ _)); exact BK321.out⟩
     have n8_ : Aside0 ((((((w21.setCell ⟨gb331, 0, none⟩ (.int .i64 t322)).setCell ⟨gb331, 1, none⟩ (.string t323)).setCell ⟨gb331, 2, none⟩ (.slice Ao25 t324.length co25)).setCell ⟨gb331, 3, none⟩ (.slice Ao26 t327.length co26)).setCell ⟨gb331, 4, none⟩ (.int .i64 t330)).heap[gb331]? = some (.cells #[.int .i64 t322, .string t323, .slice Ao25 t324.length co25, .slice Ao26 t327.length co26, .int .i64 t330] 26 (0, 0))) := ⟨by (with_reducible repeat (first | refine blk_drewN ?_ _ | refine blk_drew ?_ | refine blk_alloc ?_ _)); refine blk_put (cs := #[.int .i64 t322, .string t323, .slice Ao25 t324.length co25, .slice Ao26 t327.length co26, .int .i64 0]) ?_ 4 _ rfl; (with_reducible repeat (first | refine blk_drewN ?_ _ | refine blk_drew ?_ | refine blk_alloc ?_ _)); refine blk_put (cs := #[.int .i64 t322, .string t323, .slice Ao25 t324.length co25, .slice none 0 0, .int .i64 0]) ?_ 3 _ rfl; (with_reducible repeat (first | refine blk_drewN ?_ _ | refine blk_drew ?_ | refine blk_alloc ?_ _)); refine blk_put (cs := #[.int .i64 t322, .string t323, .slice none 0 0, .slice none 0 0, .int .i64 0]) ?_ 2 _ rfl; (with_reducible repeat (first | refine blk_drewN ?_ _ | refine blk_drew ?_ | refine blk_alloc ?_ _)); refine blk_put (cs := #[.int .i64 t322, .string (⟨#[]⟩ : ByteArray), .slice none 0 0, .slice none 0 0, .int .i64 0]) ?_ 1 _ rfl; (with_reducible repeat (first | refine blk_drewN ?_ _ | refine blk_drew ?_ | refine blk_alloc ?_ _)); refine blk_put (cs := #[.int .i64 0, .string (⟨#[]⟩ : ByteArray), .slice none 0 0, .slice none 0 0, .int .i64 0]) ?_ 0 _ rfl; (with_reducible repeat (first | refine blk_drewN ?_ _ | refine blk_drew ?_ | refine blk_alloc ?_ _)); exact BK331.out⟩
     have n9_ : Aside0 (Below w.heap.size w (((((w21.setCell ⟨gb331, 0, none⟩ (.int .i64 t322)).setCell ⟨gb331, 1, none⟩ (.string t323)).setCell ⟨gb331, 2, none⟩ (.slice Ao25 t324.length co25)).setCell ⟨gb331, 3, none⟩ (.slice Ao26 t327.length co26)).setCell ⟨gb331, 4, none⟩ (.int .i64 t330))) := ⟨(q8_ HB.out GE320.out GE321.out GE331.out)⟩
     (try clear HO306)
     (try clear HO309)
     (try clear HO315)
     (try clear HO318)
     (try clear HO326)
     (try clear HO329)
     (try clear BK320)
     (try clear BK321)
     (try clear BK331)
     (try clear HB)
     generalize (((((w21.setCell ⟨gb331, 0, none⟩ (.int .i64 t322)).setCell ⟨gb331, 1, none⟩ (.string t323)).setCell ⟨gb331, 2, none⟩ (.slice Ao25 t324.length co25)).setCell ⟨gb331, 3, none⟩ (.slice Ao26 t327.length co26)).setCell ⟨gb331, 4, none⟩ (.int .i64 t330)) = w63 at n0_ n1_ n2_ n3_ n4_ n5_ n6_ n7_ n8_ n9_ ⊢
     have HO306 := n0_
     have HO309 := n1_
     have HO315 := n2_
     have HO318 := n3_
     have HO326 := n4_
     have HO329 := n5_
     have BK320 := n6_
     have BK321 := n7_
     have BK331 := n8_
     have HB := n9_
     clear n0_ n1_ n2_ n3_ n4_ n5_ n6_ n7_ n8_ n9_
     have n0_ := Aside0.mk (Kd.R_drew HO306.out)
     have n1_ := Aside0.mk (Kd.R_drew HO309.out)
     have n2_ := Aside0.mk (Kd.R_drew HO315.out)
     have n3_ := Aside0.mk (Kd.R_drew HO318.out)
     have n4_ := Aside0.mk (Kd.R_drew HO326.out)
     have n5_ := Aside0.mk (Kd.R_drew HO329.out)
     have n6_ := Aside0.mk (blk_drew BK320.out)
     have n7_ := Aside0.mk (blk_drew BK321.out)
     have n8_ := Aside0.mk (blk_drew BK331.out)
     have n9_ := Aside0.mk (below_drew1 HB.out)
     clear HO306
     clear HO309
     clear HO315
     clear HO318
     clear HO326
     clear HO329
     clear BK320
     clear BK321
     clear BK331
     clear HB
     have HO306 := n0_
     have HO309 := n1_
     have HO315 := n2_
     have HO318 := n3_
     have HO326 := n4_
     have HO329 := n5_
     have BK320 := n6_
     have BK321 := n7_
     have BK331 := n8_
     have HB := n9_
     clear n0_ n1_ n2_ n3_ n4_ n5_ n6_ n7_ n8_ n9_
     refine start_ (n := 36) (S := fun w' => w'.cell? ⟨gb320, 0, none⟩ = some (.int .i64 t302) ∧ w'.cell? ⟨gb320, 1, none⟩ = some (.string t303) ∧ w'.cell? ⟨gb320, 2, none⟩ = some (.slice Ao15 t304.length co15) ∧ w'.cell? ⟨gb320, 3, none⟩ = some (.slice Ao16 t307.length co16) ∧ w'.cell? ⟨gb320, 4, none⟩ = some (.int .i64 t310) ∧ w'.cell? ⟨gb321, 0, none⟩ = some (.int .i64 t311) ∧ w'.cell? ⟨gb321, 1, none⟩ = some (.string t312) ∧ w'.cell? ⟨gb321, 2, none⟩ = some (.slice Ao18 t313.length co18) ∧ w'.cell? ⟨gb321, 3, none⟩ = some (.slice Ao19 t316.length co19) ∧ w'.cell? ⟨gb321, 4, none⟩ = some (.int .i64 t319)) (ds := []) (ml_ 36 0) (by kernel_rfl) rfl rfl ⟨(blk_cell BK320.out 0).trans rfl, (blk_cell BK320.out 1).trans rfl, (blk_cell BK320.out 2).trans rfl, (blk_cell BK320.out 3).trans rfl, (blk_cell BK320.out 4).trans rfl, (blk_cell BK321.out 0).trans rfl, (blk_cell BK321.out 1).trans rfl, (blk_cell BK321.out 2).trans rfl, (blk_cell BK321.out 3).trans rfl, (blk_cell BK321.out 4).trans rfl⟩ (fun hHeld => ?_); refine with_tabW caravanlaw5_ItemMade.tab3 caravanlaw5_ItemMade.bits3 (fun HT_ HW_ => ?_)
     generalize w63.drew = w64 at HO306 HO309 HO315 HO318 HO326 HO329 BK320 BK321 BK331 HB hHeld ⊢
     refine t10_ 0 22 (ml_ 36 1) rfl rfl HT_.out HW_.out hHeld ?_
     refine one_ (i := 1) (N := some 23) (ml_ 36 3) rfl rfl (one_of HT_.out (by kernel_rfl)) (by decide) (fun K hK => ?_)
     refine goes_ Try.func9 (by kernel_rfl) rfl #[.agg #[.int .i64 t302, .string t303, .slice Ao15 t304.length co15, .slice Ao16 t307.length co16, .int .i64 t310]] (by rfl) rfl rfl qM_ ?_
     with_reducible refine (item_May.calls t302 t303 _ _ t304 _ _ t307 t310 true _ ?side1 ?side2 ?side3 ?side4 A27.out).mono ?_
     (case side1 => exact qC_ ((Kd.R_reads' HO306.out).2.2))
     (case side2 => exact (Kd.R_reads' HO306.out).2.1)
     (case side3 => exact qC_ ((Kd.R_reads' HO309.out).2.2))
     (case side4 => exact (Kd.R_reads' HO309.out).2.1)
     rintro e w65 ⟨rfl, hb⟩
     refine ⟨_, rfl, ?_⟩
     have n0_ := Aside0.mk (Kd.R_below (q1_ HO306.out) hb)
     have n1_ := Aside0.mk (Kd.R_below (q1_ HO309.out) hb)
     have n2_ := Aside0.mk (Kd.R_below (q1_ HO315.out) hb)
     have n3_ := Aside0.mk (Kd.R_below (q1_ HO318.out) hb)
     have n4_ := Aside0.mk (Kd.R_below (q1_ HO326.out) hb)
     have n5_ := Aside0.mk (Kd.R_below (q1_ HO329.out) hb)
     have n6_ := Aside0.mk (blk_below (g := gb320) (o := .cells #[.int .i64 t302, .string t303, .slice Ao15 t304.length co15, .slice Ao16 t307.length co16, .int .i64 t310] 26 (0, 0)) (q3_ BK320.out) hb)
     have n7_ := Aside0.mk (blk_below (g := gb321) (o := .cells #[.int .i64 t311, .string t312, .slice Ao18 t313.length co18, .slice Ao19 t316.length co19, .int .i64 t319] 26 (0, 0)) (q3_ BK321.out) hb)
     have n8_ := Aside0.mk (blk_below (g := gb331) (o := .cells #[.int .i64 t322, .string t323, .slice Ao25 t324.length co25, .slice Ao26 t327.length co26, .int .i64 t330] 26 (0, 0)) (q3_ BK331.out) hb)
     have n9_ := Aside0.mk (below_step (q8_ HB.out GE320.out GE321.out GE331.out) hb)
     clear HO306
     clear HO309
     clear HO315
     clear HO318
     clear HO326
     clear HO329
     clear BK320
     clear BK321
     clear BK331
     clear HB
     have HO306 := n0_
     have HO309 := n1_
     have HO315 := n2_
     have HO318 := n3_
     have HO326 := n4_
     have HO329 := n5_
     have BK320 := n6_
     have BK321 := n7_
     have BK331 := n8_
     have HB := n9_
     clear n0_ n1_ n2_ n3_ n4_ n5_ n6_ n7_ n8_ n9_
     (try clear hb)
     (try clear hb2)
     (try clear hk)
     (try clear hi)
     refine hK.out _ _ ⟨(blk_cell BK320.out 0).trans rfl, (blk_cell BK320.out 1).trans rfl, (blk_cell BK320.out 2).trans rfl, (blk_cell BK320.out 3).trans rfl, (blk_cell BK320.out 4).trans rfl, (blk_cell BK321.out 0).trans rfl, (blk_cell BK321.out 1).trans rfl, (blk_cell BK321.out 2).trans rfl, (blk_cell BK321.out 3).trans rfl, (blk_cell BK321.out 4).trans rfl⟩ (fun hHeld => ?_)
     clear hK K
     refine nA_ 23 ?_
     refine pA_ 2 24 (ml_ 36 7) rfl rfl HT_.out ?_
     refine pA_ 3 25 (ml_ 36 15) rfl rfl HT_.out ?_
     refine t10_ 4 26 (ml_ 36 31) rfl rfl HT_.out HW_.out hHeld ?_
     refine t10_ 5 27 (ml_ 36 63) rfl rfl HT_.out HW_.out hHeld ?_
     refine t10_ 7 29 (ml_ 36 191) rfl rfl HT_.out HW_.out hHeld ?_
     refine t10_ 8 30 (ml_ 36 447) rfl rfl HT_.out HW_.out hHeld ?_
     refine one_ (i := 6) (N := some 28) (ml_ 36 511) rfl rfl (one_of HT_.out (by kernel_rfl)) (by decide) (fun K hK => ?_)
     refine goes_ Try.func17 (by kernel_rfl) rfl #[.agg #[.int .i64 t302, .string t303, .slice Ao15 t304.length co15, .slice Ao16 t307.length co16, .int .i64 t310], .agg #[.int .i64 t311, .string t312, .slice Ao18 t313.length co18, .slice Ao19 t316.length co19, .int .i64 t319]] (by rfl) rfl rfl qM_ ?_
     with_reducible refine (item_Same.calls k t302 t303 _ _ t304 _ _ t307 t310 t311 t312 _ _ t313 _ _ t316 t319 t333 _ ?side1 ?side2 ?side3 ?side4 ?side5 ?side6 ?side7 ?side8 A29.out).mono ?_
     (case side1 => exact qC_ ((Kd.R_reads' HO306.out).2.2))
     (case side2 => exact (Kd.R_reads' HO306.out).2.1)
     (case side3 => exact qC_ ((Kd.R_reads' HO309.out).2.2))
     (case side4 => exact (Kd.R_reads' HO309.out).2.1)
     (case side5 => exact qC_ ((Kd.R_reads' HO315.out).2.2))
     (case side6 => exact (Kd.R_reads' HO315.out).2.1)
     (case side7 => exact qC_ ((Kd.R_reads' HO318.out).2.2))
     (case side8 => exact (Kd.R_reads' HO318.out).2.1)
     rintro e w66 ⟨rfl, hb⟩
     refine ⟨_, rfl, ?_⟩
     have n0_ := Aside0.mk (Kd.R_below (q1_ HO306.out) hb)
     have n1_ := Aside0.mk (Kd.R_below (q1_ HO309.out) hb)
     have n2_ := Aside0.mk (Kd.R_below (q1_ HO315.out) hb)
     have n3_ := Aside0.mk (Kd.R_below (q1_ HO318.out) hb)
     have n4_ := Aside0.mk (Kd.R_below (q1_ HO326.out) hb)
     have n5_ := Aside0.mk (Kd.R_below (q1_ HO329.out) hb)
     have n6_ := Aside0.mk (blk_below (g := gb320) (o := .cells #[.int .i64 t302, .string t303, .slice Ao15 t304.length co15, .slice Ao16 t307.length co16, .int .i64 t310] 26 (0, 0)) (q3_ BK320.out) hb)
     have n7_ := Aside0.mk (blk_below (g := gb321) (o := .cells #[.int .i64 t311, .string t312, .slice Ao18 t313.length co18, .slice Ao19 t316.length co19, .int .i64 t319] 26 (0, 0)) (q3_ BK321.out) hb)
     have n8_ := Aside0.mk (blk_below (g := gb331) (o := .cells #[.int .i64 t322, .string t323, .slice Ao25 t324.length co25, .slice Ao26 t327.length co26, .int .i64 t330] 26 (0, 0)) (q3_ BK331.out) hb)
     have n9_ := Aside0.mk (below_step (q8_ HB.out GE320.out GE321.out GE331.out) hb)
     clear HO306
     clear HO309
     clear HO315
     clear HO318
     clear HO326
     clear HO329
     clear BK320
     clear BK321
     clear BK331
     clear HB
     have HO306 := n0_
     have HO309 := n1_
     have HO315 := n2_
     have HO318 := n3_
     have HO326 := n4_
     have HO329 := n5_
     have BK320 := n6_
     have BK321 := n7_
     have BK331 := n8_
     have HB := n9_
     clear n0_ n1_ n2_ n3_ n4_ n5_ n6_ n7_ n8_ n9_
     (try clear hb)
     (try clear hb2)
     (try clear hk)
     (try clear hi)
     refine hK.out _ _ ⟨(blk_cell BK320.out 0).trans rfl, (blk_cell BK320.out 1).trans rfl, (blk_cell BK320.out 2).trans rfl, (blk_cell BK320.out 3).trans rfl, (blk_cell BK320.out 4).trans rfl, (blk_cell BK321.out 0).trans rfl, (blk_cell BK321.out 1).trans rfl, (blk_cell BK321.out 2).trans rfl, (blk_cell BK321.out 3).trans rfl, (blk_cell BK321.out 4).trans rfl⟩ (fun hHeld => ?_)
     clear hK K
     refine nA_ 28 ?_
     refine one_ (i := 9) (N := some 31) (ml_ 36 1023) rfl rfl (one_of HT_.out (by kernel_rfl)) (by decide) (fun K hK => ?_)
     refine goes_ Try.func18 (by kernel_rfl) rfl #[.agg #[.int .i64 t302, .string t303, .slice Ao15 t304.length co15, .slice Ao16 t307.length co16, .int .i64 t310], .agg #[.int .i64 t311, .string t312, .slice Ao18 t313.length co18, .slice Ao19 t316.length co19, .int .i64 t319]] (by rfl) rfl rfl qM_ ?_
     with_reducible refine (caravanref5_SameItem.calls k t302 t303 _ _ t304 _ _ t307 t310 t311 t312 _ _ t313 _ _ t316 t319 t334 _ ?side1 ?side2 ?side3 ?side4 ?side5 ?side6 ?side7 ?side8 A30.out).mono ?_
     (case side1 => exact qC_ ((Kd.R_reads' HO306.out).2.2))
     (case side2 => exact (Kd.R_reads' HO306.out).2.1)
     (case side3 => exact qC_ ((Kd.R_reads' HO309.out).2.2))
     (case side4 => exact (Kd.R_reads' HO309.out).2.1)
     (case side5 => exact qC_ ((Kd.R_reads' HO315.out).2.2))
     (case side6 => exact (Kd.R_reads' HO315.out).2.1)
     (case side7 => exact qC_ ((Kd.R_reads' HO318.out).2.2))
     (case side8 => exact (Kd.R_reads' HO318.out).2.1)
     rintro e w67 ⟨rfl, hb⟩
     refine ⟨_, rfl, ?_⟩
     have n0_ := Aside0.mk (Kd.R_below (q1_ HO306.out) hb)
     have n1_ := Aside0.mk (Kd.R_below (q1_ HO309.out) hb)
     have n2_ := Aside0.mk (Kd.R_below (q1_ HO315.out) hb)
     have n3_ := Aside0.mk (Kd.R_below (q1_ HO318.out) hb)
     have n4_ := Aside0.mk (Kd.R_below (q1_ HO326.out) hb)
     have n5_ := Aside0.mk (Kd.R_below (q1_ HO329.out) hb)
     have n6_ := Aside0.mk (blk_below (g := gb320) (o := .cells #[.int .i64 t302, .string t303, .slice Ao15 t304.length co15, .slice Ao16 t307.length co16, .int .i64 t310] 26 (0, 0)) (q3_ BK320.out) hb)
     have n7_ := Aside0.mk (blk_below (g := gb321) (o := .cells #[.int .i64 t311, .string t312, .slice Ao18 t313.length co18, .slice Ao19 t316.length co19, .int .i64 t319] 26 (0, 0)) (q3_ BK321.out) hb)
     have n8_ := Aside0.mk (blk_below (g := gb331) (o := .cells #[.int .i64 t322, .string t323, .slice Ao25 t324.length co25, .slice Ao26 t327.length co26, .int .i64 t330] 26 (0, 0)) (q3_ BK331.out) hb)
     have n9_ := Aside0.mk (below_step (q8_ HB.out GE320.out GE321.out GE331.out) hb)
     clear HO306
     clear HO309
     clear HO315
     clear HO318
     clear HO326
     clear HO329
     clear BK320
     clear BK321
     clear BK331
     clear HB
     have HO306 := n0_
     have HO309 := n1_
     have HO315 := n2_
     have HO318 := n3_
     have HO326 := n4_
     have HO329 := n5_
     have BK320 := n6_
     have BK321 := n7_
     have BK331 := n8_
     have HB := n9_
     clear n0_ n1_ n2_ n3_ n4_ n5_ n6_ n7_ n8_ n9_
     (try clear hb)
     (try clear hb2)
     (try clear hk)
     (try clear hi)
     refine hK.out _ _ ⟨(blk_cell BK320.out 0).trans rfl, (blk_cell BK320.out 1).trans rfl, (blk_cell BK320.out 2).trans rfl, (blk_cell BK320.out 3).trans rfl, (blk_cell BK320.out 4).trans rfl, (blk_cell BK321.out 0).trans rfl, (blk_cell BK321.out 1).trans rfl, (blk_cell BK321.out 2).trans rfl, (blk_cell BK321.out 3).trans rfl, (blk_cell BK321.out 4).trans rfl⟩ (fun hHeld => ?_)
     clear hK K
     refine nA_ 31 ?_
     refine pA_ 10 32 (ml_ 36 2047) rfl rfl HT_.out ?_
     refine pA_ 11 33 (ml_ 36 4095) rfl rfl HT_.out ?_
     refine pA_ 12 34 (ml_ 36 8191) rfl rfl HT_.out ?_
     refine t10_ 13 35 (ml_ 36 16383) rfl rfl HT_.out HW_.out hHeld ?_
     refine t10_ 15 37 (ml_ 36 49151) rfl rfl HT_.out HW_.out hHeld ?_
     refine one_ (i := 14) (N := some 36) (ml_ 36 65535) rfl rfl (one_of HT_.out (by kernel_rfl)) (by decide) (fun K hK => ?_)
     refine goes_ Try.func15 (by kernel_rfl) rfl #[.agg #[.int .i64 t302, .string t303, .slice Ao15 t304.length co15, .slice Ao16 t307.length co16, .int .i64 t310]] (by rfl) rfl rfl qM_ ?_
     with_reducible refine (item_Type.calls t302 t303 _ _ t304 _ _ t307 t310 t335 _ ?side1 ?side2 ?side3 ?side4 A37.out).mono ?_
     (case side1 => exact qC_ ((Kd.R_reads' HO306.out).2.2))
     (case side2 => exact (Kd.R_reads' HO306.out).2.1)
     (case side3 => exact qC_ ((Kd.R_reads' HO309.out).2.2))
     (case side4 => exact (Kd.R_reads' HO309.out).2.1)
     rintro e w68 ⟨rfl, hb⟩
     refine ⟨_, rfl, ?_⟩
     have n0_ := Aside0.mk (Kd.R_below (q1_ HO306.out) hb)
     have n1_ := Aside0.mk (Kd.R_below (q1_ HO309.out) hb)
     have n2_ := Aside0.mk (Kd.R_below (q1_ HO315.out) hb)
     have n3_ := Aside0.mk (Kd.R_below (q1_ HO318.out) hb)
     have n4_ := Aside0.mk (Kd.R_below (q1_ HO326.out) hb)
     have n5_ := Aside0.mk (Kd.R_below (q1_ HO329.out) hb)
     have n6_ := Aside0.mk (blk_below (g := gb320) (o := .cells #[.int .i64 t302, .string t303, .slice Ao15 t304.length co15, .slice Ao16 t307.length co16, .int .i64 t310] 26 (0, 0)) (q3_ BK320.out) hb)
     have n7_ := Aside0.mk (blk_below (g := gb321) (o := .cells #[.int .i64 t311, .string t312, .slice Ao18 t313.length co18, .slice Ao19 t316.length co19, .int .i64 t319] 26 (0, 0)) (q3_ BK321.out) hb)
     have n8_ := Aside0.mk (blk_below (g := gb331) (o := .cells #[.int .i64 t322, .string t323, .slice Ao25 t324.length co25, .slice Ao26 t327.length co26, .int .i64 t330] 26 (0, 0)) (q3_ BK331.out) hb)
     have n9_ := Aside0.mk (below_step (q8_ HB.out GE320.out GE321.out GE331.out) hb)
     clear HO306
     clear HO309
     clear HO315
     clear HO318
     clear HO326
     clear HO329
     clear BK320
     clear BK321
     clear BK331
     clear HB
     have HO306 := n0_
     have HO309 := n1_
     have HO315 := n2_
     have HO318 := n3_
     have HO326 := n4_
     have HO329 := n5_
     have BK320 := n6_
     have BK321 := n7_
     have BK331 := n8_
     have HB := n9_
     clear n0_ n1_ n2_ n3_ n4_ n5_ n6_ n7_ n8_ n9_
     (try clear hb)
     (try clear hb2)
     (try clear hk)
     (try clear hi)
     refine hK.out _ _ ⟨(blk_cell BK320.out 0).trans rfl, (blk_cell BK320.out 1).trans rfl, (blk_cell BK320.out 2).trans rfl, (blk_cell BK320.out 3).trans rfl, (blk_cell BK320.out 4).trans rfl, (blk_cell BK321.out 0).trans rfl, (blk_cell BK321.out 1).trans rfl, (blk_cell BK321.out 2).trans rfl, (blk_cell BK321.out 3).trans rfl, (blk_cell BK321.out 4).trans rfl⟩ (fun hHeld => ?_)
     clear hK K
     refine nA_ 36 ?_
     refine one_ (i := 16) (N := some 38) (ml_ 36 131071) rfl rfl (one_of HT_.out (by kernel_rfl)) (by decide) (fun K hK => ?_)
     refine goes_ Try.func16 (by kernel_rfl) rfl #[.agg #[.int .i64 t302, .string t303, .slice Ao15 t304.length co15, .slice Ao16 t307.length co16, .int .i64 t310]] (by rfl) rfl rfl qM_ ?_
     with_reducible refine (caravanref5_Type.calls t302 t303 _ _ t304 _ _ t307 t310 t336 _ ?side1 ?side2 ?side3 ?side4 A38.out).mono ?_
     (case side1 => exact qC_ ((Kd.R_reads' HO306.out).2.2))
     (case side2 => exact (Kd.R_reads' HO306.out).2.1)
     (case side3 => exact qC_ ((Kd.R_reads' HO309.out).2.2))
     (case side4 => exact (Kd.R_reads' HO309.out).2.1)
     rintro e w69 ⟨rfl, hb⟩
     refine ⟨_, rfl, ?_⟩
     have n0_ := Aside0.mk (Kd.R_below (q1_ HO306.out) hb)
     have n1_ := Aside0.mk (Kd.R_below (q1_ HO309.out) hb)
     have n2_ := Aside0.mk (Kd.R_below (q1_ HO315.out) hb)
     have n3_ := Aside0.mk (Kd.R_below (q1_ HO318.out) hb)
     have n4_ := Aside0.mk (Kd.R_below (q1_ HO326.out) hb)
     have n5_ := Aside0.mk (Kd.R_below (q1_ HO329.out) hb)
     have n6_ := Aside0.mk (blk_below (g := gb320) (o := .cells #[.int .i64 t302, .string t303, .slice Ao15 t304.length co15, .slice Ao16 t307.length co16, .int .i64 t310] 26 (0, 0)) (q3_ BK320.out) hb)
     have n7_ := Aside0.mk (blk_below (g := gb321) (o := .cells #[.int .i64 t311, .string t312, .slice Ao18 t313.length co18, .slice Ao19 t316.length co19, .int .i64 t319] 26 (0, 0)) (q3_ BK321.out) hb)
     have n8_ := Aside0.mk (blk_below (g := gb331) (o := .cells #[.int .i64 t322, .string t323, .slice Ao25 t324.length co25, .slice Ao26 t327.length co26, .int .i64 t330] 26 (0, 0)) (q3_ BK331.out) hb)
     have n9_ := Aside0.mk (below_step (q8_ HB.out GE320.out GE321.out GE331.out) hb)
     clear HO306
     clear HO309
     clear HO315
     clear HO318
     clear HO326
     clear HO329
     clear BK320
     clear BK321
     clear BK331
     clear HB
     have HO306 := n0_
     have HO309 := n1_
     have HO315 := n2_
     have HO318 := n3_
     have HO326 := n4_
     have HO329 := n5_
     have BK320 := n6_
     have BK321 := n7_
     have BK331 := n8_
     have HB := n9_
     clear n0_ n1_ n2_ n3_ n4_ n5_ n6_ n7_ n8_ n9_
     (try clear hb)
     (try clear hb2)
     (try clear hk)
     (try clear hi)
     refine hK.out _ _ ⟨(blk_cell BK320.out 0).trans rfl, (blk_cell BK320.out 1).trans rfl, (blk_cell BK320.out 2).trans rfl, (blk_cell BK320.out 3).trans rfl, (blk_cell BK320.out 4).trans rfl, (blk_cell BK321.out 0).trans rfl, (blk_cell BK321.out 1).trans rfl, (blk_cell BK321.out 2).trans rfl, (blk_cell BK321.out 3).trans rfl, (blk_cell BK321.out 4).trans rfl⟩ (fun hHeld => ?_)
     clear hK K
     refine nA_ 38 ?_
     refine pA_ 17 39 (ml_ 36 262143) rfl rfl HT_.out ?_
     refine pA_ 18 40 (ml_ 36 524287) rfl rfl HT_.out ?_
     refine pA_ 19 41 (ml_ 36 1048575) rfl rfl HT_.out ?_
     refine pU_ 20 42 (ml_ 36 2097151) rfl rfl HT_.out ?_
     refine pU_ 21 43 (ml_ 36 4194303) rfl rfl HT_.out ?_
     refine pU_ 22 44 (ml_ 36 8388607) rfl rfl HT_.out ?_
     refine pU_ 23 45 (ml_ 36 16777215) rfl rfl HT_.out ?_
     refine pU_ 24 46 (ml_ 36 33554431) rfl rfl HT_.out ?_
     refine pU_ 25 47 (ml_ 36 67108863) rfl rfl HT_.out ?_
     refine pU_ 26 48 (ml_ 36 134217727) rfl rfl HT_.out ?_
     refine pU_ 27 49 (ml_ 36 268435455) rfl rfl HT_.out ?_
     refine pU_ 28 50 (ml_ 36 536870911) rfl rfl HT_.out ?_
     refine pA_ 29 51 (ml_ 36 1073741823) rfl rfl HT_.out ?_
     refine pA_ 30 52 (ml_ 36 2147483647) rfl rfl HT_.out ?_
     refine pU_ 31 53 (ml_ 36 4294967295) rfl rfl HT_.out ?_
     refine pU_ 32 54 (ml_ 36 8589934591) rfl rfl HT_.out ?_
     refine pU_ 33 55 (ml_ 36 17179869183) rfl rfl HT_.out ?_
     refine pU_ 34 56 (ml_ 36 34359738367) rfl rfl HT_.out ?_
     refine pA_ 35 57 (ml_ 36 68719476735) rfl rfl HT_.out ?_
     refine done_ (done_of HT_.out (by kernel_rfl)) ?_
     try go_wp2
     go_meet
     case rel => exact ⟨_, (true), (by first | rfl | (simp; done) | (simp [*]; done)), H', ⟨by first | omega | exact Nat.le_refl _⟩, ⟨by (with_reducible repeat (first | apply Kd.R_alloc | apply Kd.R_drewN | apply Kd.R_drew)); exact HO306.out⟩, ⟨by (with_reducible repeat (first | apply Kd.R_alloc | apply Kd.R_drewN | apply Kd.R_drew)); exact HO309.out⟩, ⟨by (with_reducible repeat (first | apply Kd.R_alloc | apply Kd.R_drewN | apply Kd.R_drew)); exact HO315.out⟩, ⟨by (with_reducible repeat (first | apply Kd.R_alloc | apply Kd.R_drewN | apply Kd.R_drew)); exact HO318.out⟩, ⟨by (with_reducible repeat (first | apply Kd.R_alloc | apply Kd.R_drewN | apply Kd.R_drew)); exact HO326.out⟩, ⟨by (with_reducible repeat (first | apply Kd.R_alloc | apply Kd.R_drewN | apply Kd.R_drew)); exact HO329.out⟩, ⟨by (with_reducible repeat (first | refine blk_drewN ?_ _ | refine blk_drew ?_ | refine blk_alloc ?_ _)); exact BK320.out⟩, ⟨by (with_reducible repeat (first | refine blk_drewN ?_ _ | refine blk_drew ?_ | refine blk_alloc ?_ _)); exact BK321.out⟩, ⟨by (with_reducible repeat (first | refine blk_drewN ?_ _ | refine blk_drew ?_ | refine blk_alloc ?_ _)); exact BK331.out⟩, ⟨(q8_ HB.out GE320.out GE321.out GE331.out)⟩⟩
  ·replace c28 := Bool.eq_false_iff.mpr c28
   subst c28
   have H1 : (caravanlaw5_ItemMade.j0 k l0 a2 true t302 t303 t304 t307 t310 t322 t323 t324 t327 t330) = some r := by rw [if_neg (show ¬ (false = true) by decide)] at H; exact H
   clear H
   have H := H1
   clear H1
   have H' := Aside0.mk H
   clear H
   try go_wp2
   have n0_ : Aside0 (Kd.R k29 29 (((((w21.setCell ⟨gb331, 0, none⟩ (.int .i64 t322)).setCell ⟨gb331, 1, none⟩ (.string t323)).setCell ⟨gb331, 2, none⟩ (.slice Ao25 t324.length co25)).setCell ⟨gb331, 3, none⟩ (.slice Ao26 t327.length co26)).setCell ⟨gb331, 4, none⟩ (.int .i64 t330)) w.heap.size (fun k_ => some k_ ≠ (.slice Ao18 t313.length co18 : Value).ownBlock ∧ some k_ ≠ (.slice Ao25 t324.length co25 : Value).ownBlock) (.slice Ao15 t304.length co15) t304) := ⟨by (with_reducible repeat (first | apply Kd.R_alloc | apply Kd.R_drewN | apply Kd.R_drew)); exact Kd.R_mono (Kd.R_far (p := ⟨gb331, 4, none⟩) (Kd.R_far (p := ⟨gb331, 3, none⟩) (Kd.R_far (p := ⟨gb331, 2, none⟩) (Kd.R_far (p := ⟨gb331, 1, none⟩) (Kd.R_far (p := ⟨gb331, 0, none⟩) (Kd.R_types HO306.out BK331.out (by decide)) (fun _ hk => hk.2) (.int .i64 t322)) (fun _ hk => hk.2) (.string t323)) (fun _ hk => hk.2) (.slice Ao25 t324.length co25)) (fun _ hk => hk.2) (.slice Ao26 t327.length co26)) (fun _ hk => hk.2) (.int .i64 t330)) (fun _ hk => ⟨hk.1.1.2, hk.1.2⟩)⟩
   have n1_ : Aside0 (Kd.R Kd.string 9 (((((w21.setCell ⟨gb331, 0, none⟩ (.int .i64 t322)).setCell ⟨gb331, 1, none⟩ (.string t323)).setCell ⟨gb331, 2, none⟩ (.slice Ao25 t324.length co25)).setCell ⟨gb331, 3, none⟩ (.slice Ao26 t327.length co26)).setCell ⟨gb331, 4, none⟩ (.int .i64 t330)) w.heap.size (fun k_ => some k_ ≠ (.slice Ao19 t316.length co19 : Value).ownBlock ∧ some k_ ≠ (.slice Ao26 t327.length co26 : Value).ownBlock) (.slice Ao16 t307.length co16) t307) := ⟨by (with_reducible repeat (first | apply Kd.R_alloc | apply Kd.R_drewN | apply Kd.R_drew)); exact Kd.R_mono (Kd.R_far (p := ⟨gb331, 4, none⟩) (Kd.R_far (p := ⟨gb331, 3, none⟩) (Kd.R_far (p := ⟨gb331, 2, none⟩) (Kd.R_far (p := ⟨gb331, 1, none⟩) (Kd.R_far (p := ⟨gb331, 0, none⟩) (Kd.R_types HO309.out BK331.out (by decide)) (fun _ hk => hk.2) (.int .i64 t322)) (fun _ hk => hk.2) (.string t323)) (fun _ hk => hk.2) (.slice Ao25 t324.length co25)) (fun _ hk => hk.2) (.slice Ao26 t327.length co26)) (fun _ hk => hk.2) (.int .i64 t330)) (fun _ hk => ⟨hk.1.1.2, hk.1.2⟩)⟩
   have n2_ : Aside0 (Kd.R k29 29 (((((w21.setCell ⟨gb331, 0, none⟩ (.int .i64 t322)).setCell ⟨gb331, 1, none⟩ (.string t323)).setCell ⟨gb331, 2, none⟩ (.slice Ao25 t324.length co25)).setCell ⟨gb331, 3, none⟩ (.slice Ao26 t327.length co26)).setCell ⟨gb331, 4, none⟩ (.int .i64 t330)) w.heap.size (fun k_ => some k_ ≠ (.slice Ao15 t304.length co15 : Value).ownBlock ∧ some k_ ≠ (.slice Ao25 t324.length co25 : Value).ownBlock) (.slice Ao18 t313.length co18) t313) := ⟨by (with_reducible repeat (first | apply Kd.R_alloc | apply Kd.R_drewN | apply Kd.R_drew)); exact Kd.R_mono (Kd.R_far (p := ⟨gb331, 4, none⟩) (Kd.R_far (p := ⟨gb331, 3, none⟩) (Kd.R_far (p := ⟨gb331, 2, none⟩) (Kd.R_far (p := ⟨gb331, 1, none⟩) (Kd.R_far (p := ⟨gb331, 0, none⟩) (Kd.R_types HO315.out BK331.out (by decide)) (fun _ hk => hk.2) (.int .i64 t322)) (fun _ hk => hk.2) (.string t323)) (fun _ hk => hk.2) (.slice Ao25 t324.length co25)) (fun _ hk => hk.2) (.slice Ao26 t327.length co26)) (fun _ hk => hk.2) (.int .i64 t330)) (fun _ hk => ⟨hk.1.1.2, hk.1.2⟩)⟩
   have n3_ : Aside0 (Kd.R Kd.string 9 (((((w21.setCell ⟨gb331, 0, none⟩ (.int .i64 t322)).setCell ⟨gb331, 1, none⟩ (.string t323)).setCell ⟨gb331, 2, none⟩ (.slice Ao25 t324.length co25)).setCell ⟨gb331, 3, none⟩ (.slice Ao26 t327.length co26)).setCell ⟨gb331, 4, none⟩ (.int .i64 t330)) w.heap.size (fun k_ => some k_ ≠ (.slice Ao16 t307.length co16 : Value).ownBlock ∧ some k_ ≠ (.slice Ao26 t327.length co26 : Value).ownBlock) (.slice Ao19 t316.length co19) t316) := ⟨by (with_reducible repeat (first | apply Kd.R_alloc | apply Kd.R_drewN | apply Kd.R_drew)); exact Kd.R_mono (Kd.R_far (p := ⟨gb331, 4, none⟩) (Kd.R_far (p := ⟨gb331, 3, none⟩) (Kd.R_far (p := ⟨gb331, 2, none⟩) (Kd.R_far (p := ⟨gb331, 1, none⟩) (Kd.R_far (p := ⟨gb331, 0, none⟩) (Kd.R_types HO318.out BK331.out (by decide)) (fun _ hk => hk.2) (.int .i64 t322)) (fun _ hk => hk.2) (.string t323)) (fun _ hk => hk.2) (.slice Ao25 t324.length co25)) (fun _ hk => hk.2) (.slice Ao26 t327.length co26)) (fun _ hk => hk.2) (.int .i64 t330)) (fun _ hk => ⟨hk.1.1.2, hk.1.2⟩)⟩
   have n4_ : Aside0 (Kd.R k29 29 (((((w21.setCell ⟨gb331, 0, none⟩ (.int .i64 t322)).setCell ⟨gb331, 1, none⟩ (.string t323)).setCell ⟨gb331, 2, none⟩ (.slice Ao25 t324.length co25)).setCell ⟨gb331, 3, none⟩ (.slice Ao26 t327.length co26)).setCell ⟨gb331, 4, none⟩ (.int .i64 t330)) w.heap.size (fun k_ => some k_ ≠ (.slice Ao15 t304.length co15 : Value).ownBlock ∧ some k_ ≠ (.slice Ao18 t313.length co18 : Value).ownBlock) (.slice Ao25 t324.length co25) t324) := ⟨by (with_reducible repeat (first | apply Kd.R_alloc | apply Kd.R_drewN | apply Kd.R_drew)); exact Kd.R_mono (Kd.R_far (p := ⟨gb331, 4, none⟩) (Kd.R_far (p := ⟨gb331, 3, none⟩) (Kd.R_far (p := ⟨gb331, 2, none⟩) (Kd.R_far (p := ⟨gb331, 1, none⟩) (Kd.R_far (p := ⟨gb331, 0, none⟩) (Kd.R_types HO326.out BK331.out (by decide)) (fun _ hk => hk.2) (.int .i64 t322)) (fun _ hk => hk.2) (.string t323)) (fun _ hk => hk.2) (.slice Ao25 t324.length co25)) (fun _ hk => hk.2) (.slice Ao26 t327.length co26)) (fun _ hk => hk.2) (.int .i64 t330)) (fun _ hk => ⟨hk.1.1.2, hk.1.2⟩)⟩
   have n5_ : Aside0 (Kd.R Kd.string 9 (((((w21.setCell ⟨gb331, 0, none⟩ (.int .i64 t322)).setCell ⟨gb331, 1, none⟩ (.string t323)).setCell ⟨gb331, 2, none⟩ (.slice Ao25 t324.length co25)).setCell ⟨gb331, 3, none⟩ (.slice Ao26 t327.length co26)).setCell ⟨gb331, 4, none⟩ (.int .i64 t330)) w.heap.size (fun k_ => some k_ ≠ (.slice Ao16 t307.length co16 : Value).ownBlock ∧ some k_ ≠ (.slice Ao19 t316.length co19 : Value).ownBlock) (.slice Ao26 t327.length co26) t327) := ⟨by (with_reducible repeat (first | apply Kd.R_alloc | apply Kd.R_drewN | apply Kd.R_drew)); exact Kd.R_mono (Kd.R_far (p := ⟨gb331, 4, none⟩) (Kd.R_far (p := ⟨gb331, 3, none⟩) (Kd.R_far (p := ⟨gb331, 2, none⟩) (Kd.R_far (p := ⟨gb331, 1, none⟩) (Kd.R_far (p := ⟨gb331, 0, none⟩) (Kd.R_types HO329.out BK331.out (by decide)) (fun _ hk => hk.2) (.int .i64 t322)) (fun _ hk => hk.2) (.string t323)) (fun _ hk => hk.2) (.slice Ao25 t324.length co25)) (fun _ hk => hk.2) (.slice Ao26 t327.length co26)) (fun _ hk => hk.2) (.int .i64 t330)) (fun _ hk => ⟨hk.1.1.2, hk.1.2⟩)⟩
   have n6_ : Aside0 ((((((w21.setCell ⟨gb331, 0, none⟩ (.int .i64 t322)).setCell ⟨gb331, 1, none⟩ (.string t323)).setCell ⟨gb331, 2, none⟩ (.slice Ao25 t324.length co25)).setCell ⟨gb331, 3, none⟩ (.slice Ao26 t327.length co26)).setCell ⟨gb331, 4, none⟩ (.int .i64 t330)).heap[gb320]? = some (.cells #[.int .i64 t302, .string t303, .slice Ao15 t304.length co15, .slice Ao16 t307.length co16, .int .i64 t310] 26 (0, 0))) := ⟨by (with_reducible repeat (first | refine blk_drewN ?_ _ | refine blk_drew ?_ | refine blk_alloc ?_ _)); refine blk_far ?_ NB320_331.out _; (with_reducible repeat (first | refine blk_drewN ?_ _ | refine blk_drew ?_ | refine blk_alloc ?_ _)); refine blk_far ?_ NB320_331.out _; (with_reducible repeat (first | refine blk_drewN ?_ _ | refine blk_drew ?_ | refine blk_alloc ?_ _)); refine blk_far ?_ NB320_331.out _; (with_reducible repeat (first | refine blk_drewN ?_ _ | refine blk_drew ?_ | refine blk_alloc ?_ _)); refine blk_far ?_ NB320_331.out _; (with_reducible repeat (first | refine blk_drewN ?_ _ | refine blk_drew ?_ | refine blk_alloc ?_ _)); refine blk_far ?_ NB320_331.out _; (with_reducible repeat (first | refine blk_drewN ?_ _ | refine blk_drew ?_ | refine blk_alloc ?_ _)); exact BK320.out⟩
   have n7_ : Aside0 ((((((w21.setCell ⟨gb331, 0, none⟩ (.int .i64 t322)).setCell ⟨gb331, 1, none⟩ (.string t323)).setCell ⟨gb331, 2, none⟩ (.slice Ao25 t324.length co25)).setCell ⟨gb331, 3, none⟩ (.slice Ao26 t327.length co26)).setCell ⟨gb331, 4, none⟩ (.int .i64 t330)).heap[gb321]? = some (.cells #[.int .i64 t311, .string t312, .slice Ao18 t313.length co18, .slice Ao19 t316.length co19, .int .i64 t319] 26 (0, 0))) := ⟨by (with_reducible repeat (first | refine blk_drewN ?_ _ | refine blk_drew ?_ | refine blk_alloc ?_ _)); refine blk_far ?_ NB321_331.out _; (with_reducible repeat (first | refine blk_drewN ?_ _ | refine blk_drew ?_ | refine blk_alloc ?_ _)); refine blk_far ?_ NB321_331.out _; (with_reducible repeat (first | refine blk_drewN ?_ _ | refine blk_drew ?_ | refine blk_alloc ?_ _)); refine blk_far ?_ NB321_331.out _; (with_reducible repeat (first | refine blk_drewN ?_ _ | refine blk_drew ?_ | refine blk_alloc ?_ _)); refine blk_far ?_ NB321_331.out _; (with_reducible repeat (first | refine blk_drewN ?_ _ | refine blk_drew ?_ | refine blk_alloc ?_ _)); refine blk_far ?_ NB321_331.out _; (with_reducible repeat (first | refine blk_drewN ?_ _ | refine blk_drew ?_ | refine blk_alloc ?_ _)); exact BK321.out⟩
   have n8_ : Aside0 ((((((w21.setCell ⟨gb331, 0, none⟩ (.int .i64 t322)).setCell ⟨gb331, 1, none⟩ (.string t323)).setCell ⟨gb331, 2, none⟩ (.slice Ao25 t324.length co25)).setCell ⟨gb331, 3, none⟩ (.slice Ao26 t327.length co26)).setCell ⟨gb331, 4, none⟩ (.int .i64 t330)).heap[gb331]? = some (.cells #[.int .i64 t322, .string t323, .slice Ao25 t324.length co25, .slice Ao26 t327.length co26, .int .i64 t330] 26 (0, 0))) := ⟨by (with_reducible repeat (first | refine blk_drewN ?_ _ | refine blk_drew ?_ | refine blk_alloc ?_ _)); refine blk_put (cs := #[.int .i64 t322, .string t323, .slice Ao25 t324.length co25, .slice Ao26 t327.length co26, .int .i64 0]) ?_ 4 _ rfl; (with_reducible repeat (first | refine blk_drewN ?_ _ | refine blk_drew ?_ | refine blk_alloc ?_ _)); refine blk_put (cs := #[.int .i64 t322, .string t323, .slice Ao25 t324.length co25, .slice none 0 0, .int .i64 0]) ?_ 3 _ rfl; (with_reducible repeat (first | refine blk_drewN ?_ _ | refine blk_drew ?_ | refine blk_alloc ?_ _)); refine blk_put (cs := #[.int .i64 t322, .string t323, .slice none 0 0, .slice none 0 0, .int .i64 0]) ?_ 2 _ rfl; (with_reducible repeat (first | refine blk_drewN ?_ _ | refine blk_drew ?_ | refine blk_alloc ?_ _)); refine blk_put (cs := #[.int .i64 t322, .string (⟨#[]⟩ : ByteArray), .slice none 0 0, .slice none 0 0, .int .i64 0]) ?_ 1 _ rfl; (with_reducible repeat (first | refine blk_drewN ?_ _ | refine blk_drew ?_ | refine blk_alloc ?_ _)); refine blk_put (cs := #[.int .i64 0, .string (⟨#[]⟩ : ByteArray), .slice none 0 0, .slice none 0 0, .int .i64 0]) ?_ 0 _ rfl; (with_reducible repeat (first | refine blk_drewN ?_ _ | refine blk_drew ?_ | refine blk_alloc ?_ _)); exact BK331.out⟩
   have n9_ : Aside0 (Below w.heap.size w (((((w21.setCell ⟨gb331, 0, none⟩ (.int .i64 t322)).setCell ⟨gb331, 1, none⟩ (.string t323)).setCell ⟨gb331, 2, none⟩ (.slice Ao25 t324.length co25)).setCell ⟨gb331, 3, none⟩ (.slice Ao26 t327.length co26)).setCell ⟨gb331, 4, none⟩ (.int .i64 t330))) := ⟨(q8_ HB.out GE320.out GE321.out GE331.out)⟩
   (try clear HO306)
   (try clear HO309)
   (try clear HO315)
   (try clear HO318)
   (try clear HO326)
   (try clear HO329)
   (try clear BK320)
   (try clear BK321)
   (try clear BK331)
   (try clear HB)
   generalize (((((w21.setCell ⟨gb331, 0, none⟩ (.int .i64 t322)).setCell ⟨gb331, 1, none⟩ (.string t323)).setCell ⟨gb331, 2, none⟩ (.slice Ao25 t324.length co25)).setCell ⟨gb331, 3, none⟩ (.slice Ao26 t327.length co26)).setCell ⟨gb331, 4, none⟩ (.int .i64 t330)) = w70 at n0_ n1_ n2_ n3_ n4_ n5_ n6_ n7_ n8_ n9_ ⊢
   have HO306 := n0_
   have HO309 := n1_
   have HO315 := n2_
   have HO318 := n3_
   have HO326 := n4_
   have HO329 := n5_
   have BK320 := n6_
   have BK321 := n7_
   have BK331 := n8_
   have HB := n9_
   clear n0_ n1_ n2_ n3_ n4_ n5_ n6_ n7_ n8_ n9_
   have n0_ := Aside0.mk (Kd.R_drew HO306.out)
   have n1_ := Aside0.mk (Kd.R_drew HO309.out)
   have n2_ := Aside0.mk (Kd.R_drew HO315.out)
   have n3_ := Aside0.mk (Kd.R_drew HO318.out)
   have n4_ := Aside0.mk (Kd.R_drew HO326.out)
   have n5_ := Aside0.mk (Kd.R_drew HO329.out)
   have n6_ := Aside0.mk (blk_drew BK320.out)
   have n7_ := Aside0.mk (blk_drew BK321.out)
   have n8_ := Aside0.mk (blk_drew BK331.out)
   have n9_ := Aside0.mk (below_drew1 HB.out)
   clear HO306
   clear HO309
   clear HO315
   clear HO318
   clear HO326
   clear HO329
   clear BK320
   clear BK321
   clear BK331
   clear HB
   have HO306 := n0_
   have HO309 := n1_
   have HO315 := n2_
   have HO318 := n3_
   have HO326 := n4_
   have HO329 := n5_
   have BK320 := n6_
   have BK321 := n7_
   have BK331 := n8_
   have HB := n9_
   clear n0_ n1_ n2_ n3_ n4_ n5_ n6_ n7_ n8_ n9_
   refine start_ (n := 36) (S := fun w' => w'.cell? ⟨gb320, 0, none⟩ = some (.int .i64 t302) ∧ w'.cell? ⟨gb320, 1, none⟩ = some (.string t303) ∧ w'.cell? ⟨gb320, 2, none⟩ = some (.slice Ao15 t304.length co15) ∧ w'.cell? ⟨gb320, 3, none⟩ = some (.slice Ao16 t307.length co16) ∧ w'.cell? ⟨gb320, 4, none⟩ = some (.int .i64 t310)) (ds := []) (ml_ 36 0) (by kernel_rfl) rfl rfl ⟨(blk_cell BK320.out 0).trans rfl, (blk_cell BK320.out 1).trans rfl, (blk_cell BK320.out 2).trans rfl, (blk_cell BK320.out 3).trans rfl, (blk_cell BK320.out 4).trans rfl⟩ (fun hHeld => ?_); refine with_tabW caravanlaw5_ItemMade.tab3 caravanlaw5_ItemMade.bits3 (fun HT_ HW_ => ?_)
   generalize w70.drew = w71 at HO306 HO309 HO315 HO318 HO326 HO329 BK320 BK321 BK331 HB hHeld ⊢
   refine t5_ 0 22 (ml_ 36 1) rfl rfl HT_.out HW_.out hHeld ?_
   refine one_ (i := 1) (N := some 23) (ml_ 36 3) rfl rfl (one_of HT_.out (by kernel_rfl)) (by decide) (fun K hK => ?_)
   refine goes_ Try.func9 (by kernel_rfl) rfl #[.agg #[.int .i64 t302, .string t303, .slice Ao15 t304.length co15, .slice Ao16 t307.length co16, .int .i64 t310]] (by rfl) rfl rfl qM_ ?_
   with_reducible refine (item_May.calls t302 t303 _ _ t304 _ _ t307 t310 false _ ?side1 ?side2 ?side3 ?side4 A27.out).mono ?_
   (case side1 => exact qC_ ((Kd.R_reads' HO306.out).2.2))
   (case side2 => exact (Kd.R_reads' HO306.out).2.1)
   (case side3 => exact qC_ ((Kd.R_reads' HO309.out).2.2))
   (case side4 => exact (Kd.R_reads' HO309.out).2.1)
   rintro e w72 ⟨rfl, hb⟩
   refine ⟨_, rfl, ?_⟩
   have n0_ := Aside0.mk (Kd.R_below (q1_ HO306.out) hb)
   have n1_ := Aside0.mk (Kd.R_below (q1_ HO309.out) hb)
   have n2_ := Aside0.mk (Kd.R_below (q1_ HO315.out) hb)
   have n3_ := Aside0.mk (Kd.R_below (q1_ HO318.out) hb)
   have n4_ := Aside0.mk (Kd.R_below (q1_ HO326.out) hb)
   have n5_ := Aside0.mk (Kd.R_below (q1_ HO329.out) hb)
   have n6_ := Aside0.mk (blk_below (g := gb320) (o := .cells #[.int .i64 t302, .string t303, .slice Ao15 t304.length co15, .slice Ao16 t307.length co16, .int .i64 t310] 26 (0, 0)) (q3_ BK320.out) hb)
   have n7_ := Aside0.mk (blk_below (g := gb321) (o := .cells #[.int .i64 t311, .string t312, .slice Ao18 t313.length co18, .slice Ao19 t316.length co19, .int .i64 t319] 26 (0, 0)) (q3_ BK321.out) hb)
   have n8_ := Aside0.mk (blk_below (g := gb331) (o := .cells #[.int .i64 t322, .string t323, .slice Ao25 t324.length co25, .slice Ao26 t327.length co26, .int .i64 t330] 26 (0, 0)) (q3_ BK331.out) hb)
   have n9_ := Aside0.mk (below_step (q8_ HB.out GE320.out GE321.out GE331.out) hb)
   clear HO306
   clear HO309
   clear HO315
   clear HO318
   clear HO326
   clear HO329
   clear BK320
   clear BK321
   clear BK331
   clear HB
   have HO306 := n0_
   have HO309 := n1_
   have HO315 := n2_
   have HO318 := n3_
   have HO326 := n4_
   have HO329 := n5_
   have BK320 := n6_
   have BK321 := n7_
   have BK331 := n8_
   have HB := n9_
   clear n0_ n1_ n2_ n3_ n4_ n5_ n6_ n7_ n8_ n9_
   (try clear hb)
   (try clear hb2)
   (try clear hk)
   (try clear hi)
   refine hK.out _ _ ⟨(blk_cell BK320.out 0).trans rfl, (blk_cell BK320.out 1).trans rfl, (blk_cell BK320.out 2).trans rfl, (blk_cell BK320.out 3).trans rfl, (blk_cell BK320.out 4).trans rfl⟩ (fun hHeld => ?_)
   clear hK K
   refine nA_ 23 ?_
   refine pA_ 2 24 (ml_ 36 7) rfl rfl HT_.out ?_
   refine pA_ 3 25 (ml_ 36 15) rfl rfl HT_.out ?_
   refine pU_ 4 26 (ml_ 36 31) rfl rfl HT_.out ?_
   refine pU_ 5 27 (ml_ 36 63) rfl rfl HT_.out ?_
   refine pU_ 6 28 (ml_ 36 127) rfl rfl HT_.out ?_
   refine pU_ 7 29 (ml_ 36 255) rfl rfl HT_.out ?_
   refine pU_ 8 30 (ml_ 36 511) rfl rfl HT_.out ?_
   refine pU_ 9 31 (ml_ 36 1023) rfl rfl HT_.out ?_
   refine pU_ 10 32 (ml_ 36 2047) rfl rfl HT_.out ?_
   refine pA_ 11 33 (ml_ 36 4095) rfl rfl HT_.out ?_
   refine pA_ 12 34 (ml_ 36 8191) rfl rfl HT_.out ?_
   refine pU_ 13 35 (ml_ 36 16383) rfl rfl HT_.out ?_
   refine pU_ 14 36 (ml_ 36 32767) rfl rfl HT_.out ?_
   refine pU_ 15 37 (ml_ 36 65535) rfl rfl HT_.out ?_
   refine pU_ 16 38 (ml_ 36 131071) rfl rfl HT_.out ?_
   refine pU_ 17 39 (ml_ 36 262143) rfl rfl HT_.out ?_
   refine pA_ 18 40 (ml_ 36 524287) rfl rfl HT_.out ?_
   refine pA_ 19 41 (ml_ 36 1048575) rfl rfl HT_.out ?_
   refine pU_ 20 42 (ml_ 36 2097151) rfl rfl HT_.out ?_
   refine pU_ 21 43 (ml_ 36 4194303) rfl rfl HT_.out ?_
   refine pU_ 22 44 (ml_ 36 8388607) rfl rfl HT_.out ?_
   refine pU_ 23 45 (ml_ 36 16777215) rfl rfl HT_.out ?_
   refine pU_ 24 46 (ml_ 36 33554431) rfl rfl HT_.out ?_
   refine pU_ 25 47 (ml_ 36 67108863) rfl rfl HT_.out ?_
   refine pU_ 26 48 (ml_ 36 134217727) rfl rfl HT_.out ?_
   refine pU_ 27 49 (ml_ 36 268435455) rfl rfl HT_.out ?_
   refine pU_ 28 50 (ml_ 36 536870911) rfl rfl HT_.out ?_
   refine pA_ 29 51 (ml_ 36 1073741823) rfl rfl HT_.out ?_
   refine pA_ 30 52 (ml_ 36 2147483647) rfl rfl HT_.out ?_
   refine pU_ 31 53 (ml_ 36 4294967295) rfl rfl HT_.out ?_
   refine pU_ 32 54 (ml_ 36 8589934591) rfl rfl HT_.out ?_
   refine pU_ 33 55 (ml_ 36 17179869183) rfl rfl HT_.out ?_
   refine pU_ 34 56 (ml_ 36 34359738367) rfl rfl HT_.out ?_
   refine pA_ 35 57 (ml_ 36 68719476735) rfl rfl HT_.out ?_
   refine done_ (done_of HT_.out (by kernel_rfl)) ?_
   try go_wp2
   go_meet
   case rel => exact ⟨_, (true), (by first | rfl | (simp; done) | (simp [*]; done)), H', ⟨by first | omega | exact Nat.le_refl _⟩, ⟨by (with_reducible repeat (first | apply Kd.R_alloc | apply Kd.R_drewN | apply Kd.R_drew)); exact HO306.out⟩, ⟨by (with_reducible repeat (first | apply Kd.R_alloc | apply Kd.R_drewN | apply Kd.R_drew)); exact HO309.out⟩, ⟨by (with_reducible repeat (first | apply Kd.R_alloc | apply Kd.R_drewN | apply Kd.R_drew)); exact HO315.out⟩, ⟨by (with_reducible repeat (first | apply Kd.R_alloc | apply Kd.R_drewN | apply Kd.R_drew)); exact HO318.out⟩, ⟨by (with_reducible repeat (first | apply Kd.R_alloc | apply Kd.R_drewN | apply Kd.R_drew)); exact HO326.out⟩, ⟨by (with_reducible repeat (first | apply Kd.R_alloc | apply Kd.R_drewN | apply Kd.R_drew)); exact HO329.out⟩, ⟨by (with_reducible repeat (first | refine blk_drewN ?_ _ | refine blk_drew ?_ | refine blk_alloc ?_ _)); exact BK320.out⟩, ⟨by (with_reducible repeat (first | refine blk_drewN ?_ _ | refine blk_drew ?_ | refine blk_alloc ?_ _)); exact BK321.out⟩, ⟨by (with_reducible repeat (first | refine blk_drewN ?_ _ | refine blk_drew ?_ | refine blk_alloc ?_ _)); exact BK331.out⟩, ⟨(q8_ HB.out GE320.out GE321.out GE331.out)⟩⟩
 case rest =>
  clear HC8
  try clear c1
  try clear c2
  try clear p2
  try clear c9
  try clear c15
  try clear c16
  try clear c28
  obtain ⟨kq, x57_7, rfl, HA, HJ7, HO_321002, HO_321003, HO_322002, HO_322003, HO_332002, HO_332003, BK320, BK321, BK331, HB⟩ := hcut
  cases kq with
  | zero => exact absurd HA.out (by simp [caravanlaw5_ItemMade.j0])
  | succ kj7 =>
   have H := HA.out
   clear HA
   simp only [caravanlaw5_ItemMade.j0] at H
   by_cases c73 : x57_7 = true
   ·subst c73
    have H1 : (some false) = some r := by rw [if_pos rfl] at H; exact H
    clear H
    have H := H1
    clear H1
    obtain rfl := Option.some.inj H
    go_wp2
    go_ret
    exact ⟨by first | rfl | (simp [errW_none, errW_some] <;> rfl) | (simp [*, errW_none, errW_some] <;> rfl), (q8_ HB.out GE320.out GE321.out GE331.out)⟩
   ·replace c73 := Bool.eq_false_iff.mpr c73
    subst c73
    have H1 : (caravanlaw5_ItemMade.l0 kj7 l0 a2 0 t302 t303 t304 t307 t310 t322 t323 t324 t327 t330) = some r := by rw [if_neg (show ¬ (false = true) by decide)] at H; exact H
    clear H
    have H := H1
    clear H1
    have H' := Aside0.mk H
    clear H
    go_wp2
    go_loopg [12] kj7 (fun kq v12 w' => ∃ (x12_2 : Int) (x321003_2 : List ByteArray) (x322003_2 : List ByteArray) (x332003_2 : List ByteArray) (u321003 : Value) (u322003 : Value) (u332003 : Value), v12 = .int .i64 x12_2 ∧ Aside0 (caravanlaw5_ItemMade.l0 kq l0 a2 x12_2 t302 t303 t304 x321003_2 t310 t322 t323 t324 x332003_2 t330 = some r) ∧ Aside0 (kq ≤ kj7) ∧ Aside0 (Kd.R k29 29 w' w.heap.size (fun k_ => some k_ ≠ ((.slice Ao18 t313.length co18) : Value).ownBlock ∧ some k_ ≠ ((.slice Ao25 t324.length co25) : Value).ownBlock) (.slice Ao15 t304.length co15) t304) ∧ Aside0 (Kd.R Kd.string 9 w' w.heap.size (fun k_ => some k_ ≠ (u322003 : Value).ownBlock ∧ some k_ ≠ (u332003 : Value).ownBlock) u321003 x321003_2) ∧ Aside0 (Kd.R k29 29 w' w.heap.size (fun k_ => some k_ ≠ ((.slice Ao15 t304.length co15) : Value).ownBlock ∧ some k_ ≠ ((.slice Ao25 t324.length co25) : Value).ownBlock) (.slice Ao18 t313.length co18) t313) ∧ Aside0 (Kd.R Kd.string 9 w' w.heap.size (fun k_ => some k_ ≠ (u321003 : Value).ownBlock ∧ some k_ ≠ (u332003 : Value).ownBlock) u322003 x322003_2) ∧ Aside0 (Kd.R k29 29 w' w.heap.size (fun k_ => some k_ ≠ ((.slice Ao15 t304.length co15) : Value).ownBlock ∧ some k_ ≠ ((.slice Ao18 t313.length co18) : Value).ownBlock) (.slice Ao25 t324.length co25) t324) ∧ Aside0 (Kd.R Kd.string 9 w' w.heap.size (fun k_ => some k_ ≠ (u321003 : Value).ownBlock ∧ some k_ ≠ (u322003 : Value).ownBlock) u332003 x332003_2) ∧ Aside0 (w'.heap[gb320]? = some (.cells #[.int .i64 t302, .string t303, (.slice Ao15 t304.length co15), u321003, .int .i64 t310] 26 (0, 0))) ∧ Aside0 (w'.heap[gb321]? = some (.cells #[.int .i64 t311, .string t312, (.slice Ao18 t313.length co18), u322003, .int .i64 t319] 26 (0, 0))) ∧ Aside0 (w'.heap[gb331]? = some (.cells #[.int .i64 t322, .string t323, (.slice Ao25 t324.length co25), u332003, .int .i64 t330] 26 (0, 0))) ∧ Aside0 (Below w.heap.size w w'))
    case atStart => exact ⟨(0), (t307), (t316), (t327), (.slice Ao16 t307.length co16), (.slice Ao19 t316.length co19), (.slice Ao26 t327.length co26), (by first | rfl | (simp; done) | (simp [*]; done)), H', ⟨Nat.le_refl _⟩, ⟨by (with_reducible repeat (first | apply Kd.R_alloc | apply Kd.R_drewN | apply Kd.R_drew)); exact HO_321002.out⟩, ⟨by (with_reducible repeat (first | apply Kd.R_alloc | apply Kd.R_drewN | apply Kd.R_drew)); exact HO_321003.out⟩, ⟨by (with_reducible repeat (first | apply Kd.R_alloc | apply Kd.R_drewN | apply Kd.R_drew)); exact HO_322002.out⟩, ⟨by (with_reducible repeat (first | apply Kd.R_alloc | apply Kd.R_drewN | apply Kd.R_drew)); exact HO_322003.out⟩, ⟨by (with_reducible repeat (first | apply Kd.R_alloc | apply Kd.R_drewN | apply Kd.R_drew)); exact HO_332002.out⟩, ⟨by (with_reducible repeat (first | apply Kd.R_alloc | apply Kd.R_drewN | apply Kd.R_drew)); exact HO_332003.out⟩, ⟨by (with_reducible repeat (first | refine blk_drewN ?_ _ | refine blk_drew ?_ | refine blk_alloc ?_ _)); exact BK320.out⟩, ⟨by (with_reducible repeat (first | refine blk_drewN ?_ _ | refine blk_drew ?_ | refine blk_alloc ?_ _)); exact BK321.out⟩, ⟨by (with_reducible repeat (first | refine blk_drewN ?_ _ | refine blk_drew ?_ | refine blk_alloc ?_ _)); exact BK331.out⟩, ⟨(q8_ HB.out GE320.out GE321.out GE331.out)⟩⟩
    case round =>
     clear H'
     try clear c1
     try clear c2
     try clear p2
     try clear c7
     try clear c9
     try clear c15
     try clear c16
     try clear c28
     try clear c73
     try clear p2
     obtain ⟨x12_2, x321003_2, x322003_2, x332003_2, u321003, u322003, u332003, rfl, HA, HK2, HO_321002, HO_321003, HO_322002, HO_322003, HO_332002, HO_332003, BK320, BK321, BK331, HB⟩ := hrel
     cases gk with
     | zero => exact absurd HA.out (by simp [caravanlaw5_ItemMade.l0])
     | succ k2 =>
      have H := HA.out
      clear HA
      simp only [caravanlaw5_ItemMade.l0] at H
      by_cases c74 : x12_2 < (x332003_2.length : Int)
      ·rw [if_pos c74] at H
       have c74b0 : decide (x12_2 < (x332003_2.length : Int)) = true := decide_eq_true c74
       clear c74
       by_cases c75 : 0 ≤ x12_2
       ·rw [if_pos c75] at H
        have c75b0 : decide (0 ≤ x12_2) = true := decide_eq_true c75
        clear c75
        obtain ⟨y340, hy340⟩ : ∃ y_ : List ByteArray, y_ = (x332003_2.set (x12_2 : Int).toNat (⟨#[116, 117, 114, 110, 101, 100]⟩ : ByteArray)) := ⟨_, rfl⟩
        replace H : (caravanlaw5_ItemMade.l0 k2 l0 a2 (wrap64 (x12_2 + 1)) t302 t303 t304 x321003_2 t310 t322 t323 t324 y340 t330) = some r := by first | (rw [hy340]; with_reducible exact H) | (have H2_ := (Option.bind_some _ _).symm.trans H; rw [hy340]; with_reducible exact H2_) | (have H2_ := (Option.bind_some _ _).symm.trans H; with_reducible exact H2_) | with_reducible exact H | (rw [hy340]; exact H) | exact H
        have Ny340 := Aside0.mk hy340
        clear hy340
        have H' := Aside0.mk H
        clear H
        have hnb77 := NB331_320.out
        have hnc77 := NB320_331.out
        have hnb78 := NB331_321.out
        have hnc78 := NB321_331.out
        have hcz79_0 : wr.cell? ⟨gb331, 0, none⟩ = some (.int .i64 t322) := (blk_cell BK331.out 0).trans rfl
        have hcz79_1 : wr.cell? ⟨gb331, 1, none⟩ = some (.string t323) := (blk_cell BK331.out 1).trans rfl
        have hcz79_2 : wr.cell? ⟨gb331, 2, none⟩ = some (.slice Ao25 t324.length co25) := (blk_cell BK331.out 2).trans rfl
        have hcz79_3 : wr.cell? ⟨gb331, 3, none⟩ = some (u332003) := (blk_cell BK331.out 3).trans rfl
        have hcz79_4 : wr.cell? ⟨gb331, 4, none⟩ = some (.int .i64 t330) := (blk_cell BK331.out 4).trans rfl
        have hfz79_0 := blk_frozen BK331.out 0
        have hfz79_1 := blk_frozen BK331.out 1
        have hfz79_2 := blk_frozen BK331.out 2
        have hfz79_3 := blk_frozen BK331.out 3
        have hfz79_4 := blk_frozen BK331.out 4
        obtain ⟨Ao80, co80, eo80⟩ := Kd.R_slice HO_332003.out
        subst eo80
        have p76 : 0 ≤ (x12_2 : Int) := of_decide_eq_true (by first | (with_reducible assumption) | assumption)
        have q76 : (x12_2 : Int) < ((x332003_2.length : Int) : Int) := of_decide_eq_true (by first | (with_reducible assumption) | assumption)
        obtain ⟨go76, co76, eo76, gb76, gl76, cl76, HG76⟩ := Kd.R_form HO_332003.out (by omega)
        (first | cases eo76 | (injection eo76 with ea_ en_ ec_; (first | subst ea_ | (injection ea_ with ea_; subst ea_)); subst ec_; clear en_))
        have GB76 := Aside0.mk gb76
        have GG76 := Aside0.mk HG76
        clear gb76 gl76 HG76
        obtain ⟨hx76_0, hf76_0⟩ := Kd.R_celln (⟨#[]⟩ : ByteArray) HO_332003.out (x12_2 : Int) p76 q76
        replace p76 := eq_true p76
        replace q76 := eq_true q76
        have HP81 := Kd.R_putg HO_332003.out (x12_2 : Int) (⟨#[116, 117, 114, 110, 101, 100]⟩ : ByteArray)
        go_wp2_with (first | ((with_reducible refine gate_store (t := 9) (p := 68) rfl ?_); refine store_event (t := 9) (p := 68) (v := ?vo_w82) (w1 := (wr.setCell ⟨go76, (x12_2 : Int).toNat, none⟩ (.string (⟨#[116, 117, 114, 110, 101, 100]⟩ : ByteArray)))) ?hg ?ho ?hn ?hr ?_; (case ho => rfl); (case hg => rfl); (case hn => rfl); (case hr => first | (go_simp; done) | (go_simp; rfl)); intro w82 hw; have hg : wr.grownBy w82 (some go76) := (by rw [hw]; exact HP81.2); have hp_ : Kd.R Kd.string 9 w82 w.heap.size (fun k_ => some k_ ≠ (u321003 : Value).ownBlock ∧ some k_ ≠ (u322003 : Value).ownBlock) (.slice (some ⟨go76, 0, none⟩) x332003_2.length co80) y340 := (by rw [hw, Ny340.out]; exact HP81.1); clear HP81; have n0_ := Aside0.mk (Kd.R_over' (v := (.slice (some ⟨go76, 0, none⟩) x332003_2.length co80)) (q1_ HO_321002.out) (Kd.R_typed HO_332003.out) (by decide) hg); have n1_ := Aside0.mk (Kd.R_after (v := (.slice (some ⟨go76, 0, none⟩) x332003_2.length co80)) (v1 := (.slice (some ⟨go76, 0, none⟩) x332003_2.length co80)) (ok := (fun k_ => some k_ ≠ (u322003 : Value).ownBlock)) (q1_ HO_321003.out) hg (.inl rfl)); have n2_ := Aside0.mk (Kd.R_over' (v := (.slice (some ⟨go76, 0, none⟩) x332003_2.length co80)) (q1_ HO_322002.out) (Kd.R_typed HO_332003.out) (by decide) hg); have n3_ := Aside0.mk (Kd.R_after (v := (.slice (some ⟨go76, 0, none⟩) x332003_2.length co80)) (v1 := (.slice (some ⟨go76, 0, none⟩) x332003_2.length co80)) (ok := (fun k_ => some k_ ≠ (u321003 : Value).ownBlock)) (q1_ HO_322003.out) hg (.inl rfl)); have n4_ := Aside0.mk (Kd.R_over' (v := (.slice (some ⟨go76, 0, none⟩) x332003_2.length co80)) (q1_ HO_332002.out) (Kd.R_typed HO_332003.out) (by decide) hg); have n5_ := Aside0.mk (hp_); have n6_ := Aside0.mk (blk_grown (g := gb320) (o := .cells #[.int .i64 t302, .string t303, .slice Ao15 t304.length co15, u321003, .int .i64 t310] 26 (0, 0)) (q3_ BK320.out) hg (Kd.R_ne HO_332003.out BK320.out (by decide))); have n7_ := Aside0.mk (blk_grown (g := gb321) (o := .cells #[.int .i64 t311, .string t312, .slice Ao18 t313.length co18, u322003, .int .i64 t319] 26 (0, 0)) (q3_ BK321.out) hg (Kd.R_ne HO_332003.out BK321.out (by decide))); have n8_ := Aside0.mk (blk_grown (g := gb331) (o := .cells #[.int .i64 t322, .string t323, .slice Ao25 t324.length co25, .slice (some ⟨go76, 0, none⟩) x332003_2.length co80, .int .i64 t330] 26 (0, 0)) (q3_ BK331.out) hg (Kd.R_ne HO_332003.out BK331.out (by decide))); have n9_ := Aside0.mk ((by rw [hw]; exact below_set (HB.out) GB76.out : Below w.heap.size w w82)); clear HO_321002; clear HO_321003; clear HO_322002; clear HO_322003; clear HO_332002; clear HO_332003; clear BK320; clear BK321; clear BK331; clear HB; have HO_321002 := n0_; have HO_321003 := n1_; have HO_322002 := n2_; have HO_322003 := n3_; have HO_332002 := n4_; have HO_332003 := n5_; have BK320 := n6_; have BK321 := n7_; have BK331 := n8_; have HB := n9_; clear n0_ n1_ n2_ n3_ n4_ n5_ n6_ n7_ n8_ n9_; clear hg hw hp_))
        go_roundg k2
        case measure => have := HJ7.out; have := HK2.out; omega
        case rel => exact ⟨(wrap64 (x12_2 + 1)), (x321003_2), (x322003_2), (y340), (u321003), (u322003), (.slice (some ⟨go76, 0, none⟩) x332003_2.length co80), (by first | rfl | (simp; done) | (simp [*]; done)), H', ⟨by have := HJ7.out; have := HK2.out; omega⟩, ⟨by (with_reducible repeat (first | apply Kd.R_alloc | apply Kd.R_drewN | apply Kd.R_drew)); exact HO_321002.out⟩, ⟨by (with_reducible repeat (first | apply Kd.R_alloc | apply Kd.R_drewN | apply Kd.R_drew)); exact HO_321003.out⟩, ⟨by (with_reducible repeat (first | apply Kd.R_alloc | apply Kd.R_drewN | apply Kd.R_drew)); exact HO_322002.out⟩, ⟨by (with_reducible repeat (first | apply Kd.R_alloc | apply Kd.R_drewN | apply Kd.R_drew)); exact HO_322003.out⟩, ⟨by (with_reducible repeat (first | apply Kd.R_alloc | apply Kd.R_drewN | apply Kd.R_drew)); exact HO_332002.out⟩, ⟨by (with_reducible repeat (first | apply Kd.R_alloc | apply Kd.R_drewN | apply Kd.R_drew)); exact HO_332003.out⟩, ⟨by (with_reducible repeat (first | refine blk_drewN ?_ _ | refine blk_drew ?_ | refine blk_alloc ?_ _)); exact BK320.out⟩, ⟨by (with_reducible repeat (first | refine blk_drewN ?_ _ | refine blk_drew ?_ | refine blk_alloc ?_ _)); exact BK321.out⟩, ⟨by (with_reducible repeat (first | refine blk_drewN ?_ _ | refine blk_drew ?_ | refine blk_alloc ?_ _)); exact BK331.out⟩, ⟨(q8_ HB.out GE320.out GE321.out GE331.out)⟩⟩
       ·rw [if_neg c75] at H
        exact absurd H (by simp)
      ·rw [if_neg c74] at H
       have c74b0 : decide (x12_2 < (x332003_2.length : Int)) = false := decide_eq_false c74
       clear c74
       have H' := Aside0.mk H
       clear H
       have hnb83 := NB331_320.out
       have hnc83 := NB320_331.out
       have hnb84 := NB331_321.out
       have hnc84 := NB321_331.out
       have hcz85_0 : wr.cell? ⟨gb331, 0, none⟩ = some (.int .i64 t322) := (blk_cell BK331.out 0).trans rfl
       have hcz85_1 : wr.cell? ⟨gb331, 1, none⟩ = some (.string t323) := (blk_cell BK331.out 1).trans rfl
       have hcz85_2 : wr.cell? ⟨gb331, 2, none⟩ = some (.slice Ao25 t324.length co25) := (blk_cell BK331.out 2).trans rfl
       have hcz85_3 : wr.cell? ⟨gb331, 3, none⟩ = some (u332003) := (blk_cell BK331.out 3).trans rfl
       have hcz85_4 : wr.cell? ⟨gb331, 4, none⟩ = some (.int .i64 t330) := (blk_cell BK331.out 4).trans rfl
       have hfz85_0 := blk_frozen BK331.out 0
       have hfz85_1 := blk_frozen BK331.out 1
       have hfz85_2 := blk_frozen BK331.out 2
       have hfz85_3 := blk_frozen BK331.out 3
       have hfz85_4 := blk_frozen BK331.out 4
       obtain ⟨Ao86, co86, eo86⟩ := Kd.R_slice HO_332003.out
       subst eo86
       go_wp2
       go_loopg [13] k2 (fun kq v13 w' => ∃ (x13_3 : Int) (x321002_3 : List (S29)) (x322002_3 : List (S29)) (x332002_3 : List (S29)) (u321002 : Value) (u322002 : Value) (u332002 : Value), v13 = .int .i64 x13_3 ∧ Aside0 (caravanlaw5_ItemMade.l1 kq l0 a2 x13_3 t302 t303 x321002_3 x321003_2 t310 t322 t323 x332002_3 x332003_2 t330 = some r) ∧ Aside0 (kq ≤ k2) ∧ Aside0 (Kd.R k29 29 w' w.heap.size (fun k_ => some k_ ≠ (u322002 : Value).ownBlock ∧ some k_ ≠ (u332002 : Value).ownBlock) u321002 x321002_3) ∧ Aside0 (Kd.R Kd.string 9 w' w.heap.size (fun k_ => some k_ ≠ (u322003 : Value).ownBlock ∧ some k_ ≠ ((.slice Ao86 x332003_2.length co86) : Value).ownBlock) u321003 x321003_2) ∧ Aside0 (Kd.R k29 29 w' w.heap.size (fun k_ => some k_ ≠ (u321002 : Value).ownBlock ∧ some k_ ≠ (u332002 : Value).ownBlock) u322002 x322002_3) ∧ Aside0 (Kd.R Kd.string 9 w' w.heap.size (fun k_ => some k_ ≠ (u321003 : Value).ownBlock ∧ some k_ ≠ ((.slice Ao86 x332003_2.length co86) : Value).ownBlock) u322003 x322003_2) ∧ Aside0 (Kd.R k29 29 w' w.heap.size (fun k_ => some k_ ≠ (u321002 : Value).ownBlock ∧ some k_ ≠ (u322002 : Value).ownBlock) u332002 x332002_3) ∧ Aside0 (Kd.R Kd.string 9 w' w.heap.size (fun k_ => some k_ ≠ (u321003 : Value).ownBlock ∧ some k_ ≠ (u322003 : Value).ownBlock) (.slice Ao86 x332003_2.length co86) x332003_2) ∧ Aside0 (w'.heap[gb320]? = some (.cells #[.int .i64 t302, .string t303, u321002, u321003, .int .i64 t310] 26 (0, 0))) ∧ Aside0 (w'.heap[gb321]? = some (.cells #[.int .i64 t311, .string t312, u322002, u322003, .int .i64 t319] 26 (0, 0))) ∧ Aside0 (w'.heap[gb331]? = some (.cells #[.int .i64 t322, .string t323, u332002, (.slice Ao86 x332003_2.length co86), .int .i64 t330] 26 (0, 0))) ∧ Aside0 (Below w.heap.size w w'))
       case atStart => exact ⟨(0), (t304), (t313), (t324), (.slice Ao15 t304.length co15), (.slice Ao18 t313.length co18), (.slice Ao25 t324.length co25), (by first | rfl | (simp; done) | (simp [*]; done)), H', ⟨Nat.le_refl _⟩, ⟨by (with_reducible repeat (first | apply Kd.R_alloc | apply Kd.R_drewN | apply Kd.R_drew)); exact HO_321002.out⟩, ⟨by (with_reducible repeat (first | apply Kd.R_alloc | apply Kd.R_drewN | apply Kd.R_drew)); exact HO_321003.out⟩, ⟨by (with_reducible repeat (first | apply Kd.R_alloc | apply Kd.R_drewN | apply Kd.R_drew)); exact HO_322002.out⟩, ⟨by (with_reducible repeat (first | apply Kd.R_alloc | apply Kd.R_drewN | apply Kd.R_drew)); exact HO_322003.out⟩, ⟨by (with_reducible repeat (first | apply Kd.R_alloc | apply Kd.R_drewN | apply Kd.R_drew)); exact HO_332002.out⟩, ⟨by (with_reducible repeat (first | apply Kd.R_alloc | apply Kd.R_drewN | apply Kd.R_drew)); exact HO_332003.out⟩, ⟨by (with_reducible repeat (first | refine blk_drewN ?_ _ | refine blk_drew ?_ | refine blk_alloc ?_ _)); exact BK320.out⟩, ⟨by (with_reducible repeat (first | refine blk_drewN ?_ _ | refine blk_drew ?_ | refine blk_alloc ?_ _)); exact BK321.out⟩, ⟨by (with_reducible repeat (first | refine blk_drewN ?_ _ | refine blk_drew ?_ | refine blk_alloc ?_ _)); exact BK331.out⟩, ⟨(q8_ HB.out GE320.out GE321.out GE331.out)⟩⟩
       case round =>
        clear H'
        try clear c1
        try clear c2
        try clear p2
        try clear p6
        try clear c7
        try clear p7
        try clear q7
        try clear hx7
        try clear hf7
        try clear c8
        try clear c9
        try clear c15
        try clear c16
        try clear c28
        try clear p64
        try clear c73
        try clear c74
        try clear c74b0
        try clear c75
        try clear c75b0
        try clear p76
        try clear q76
        try clear hx76
        try clear hf76
        try clear c77
        try clear c78
        try clear c83
        try clear c84
        try clear hcz79_0
        try clear hcz79_1
        try clear hcz79_2
        try clear hcz79_3
        try clear hcz79_4
        try clear hcz85_0
        try clear hcz85_1
        try clear hcz85_2
        try clear hcz85_3
        try clear hcz85_4
        try clear hfz79_0
        try clear hfz79_1
        try clear hfz79_2
        try clear hfz79_3
        try clear hfz79_4
        try clear hfz85_0
        try clear hfz85_1
        try clear hfz85_2
        try clear hfz85_3
        try clear hfz85_4
        try clear hx76_0
        try clear p2
        try clear p76
        try clear q76
        obtain ⟨x13_3, x321002_3, x322002_3, x332002_3, u321002, u322002, u332002, rfl, HA, HK3, HO_321002, HO_321003, HO_322002, HO_322003, HO_332002, HO_332003, BK320, BK321, BK331, HB⟩ := hrel
        cases gk with
        | zero => exact absurd HA.out (by simp [caravanlaw5_ItemMade.l1])
        | succ k3 =>
         have H := HA.out
         clear HA
         simp only [caravanlaw5_ItemMade.l1] at H
         by_cases c87 : x13_3 < (x332002_3.length : Int)
         ·rw [if_pos c87] at H
          have c87b0 : decide (x13_3 < (x332002_3.length : Int)) = true := decide_eq_true c87
          clear c87
          by_cases c88 : 0 ≤ x13_3
          ·rw [if_pos c88] at H
           have c88b0 : decide (0 ≤ x13_3) = true := decide_eq_true c88
           clear c88
           obtain ⟨y341, hy341⟩ : ∃ y_ : List (S29), y_ = (x332002_3.set (x13_3 : Int).toNat (⟨(rd_T29 x332002_3 x13_3).f0, (⟨#[116, 117, 114, 110, 101, 100]⟩ : ByteArray)⟩ : S29)) := ⟨_, rfl⟩
           replace H : (caravanlaw5_ItemMade.l1 k3 l0 a2 (wrap64 (x13_3 + 1)) t302 t303 x321002_3 x321003_2 t310 t322 t323 y341 x332003_2 t330) = some r := by first | (rw [hy341]; with_reducible exact H) | (have H2_ := (Option.bind_some _ _).symm.trans H; rw [hy341]; with_reducible exact H2_) | (have H2_ := (Option.bind_some _ _).symm.trans H; with_reducible exact H2_) | with_reducible exact H | (rw [hy341]; exact H) | exact H
           have Ny341 := Aside0.mk hy341
           clear hy341
           have H' := Aside0.mk H
           clear H
           have hnb90 := NB331_320.out
           have hnc90 := NB320_331.out
           have hnb91 := NB331_321.out
           have hnc91 := NB321_331.out
           have hcz92_0 : wr.cell? ⟨gb331, 0, none⟩ = some (.int .i64 t322) := (blk_cell BK331.out 0).trans rfl
           have hcz92_1 : wr.cell? ⟨gb331, 1, none⟩ = some (.string t323) := (blk_cell BK331.out 1).trans rfl
           have hcz92_2 : wr.cell? ⟨gb331, 2, none⟩ = some (u332002) := (blk_cell BK331.out 2).trans rfl
           have hcz92_3 : wr.cell? ⟨gb331, 3, none⟩ = some (.slice Ao86 x332003_2.length co86) := (blk_cell BK331.out 3).trans rfl
           have hcz92_4 : wr.cell? ⟨gb331, 4, none⟩ = some (.int .i64 t330) := (blk_cell BK331.out 4).trans rfl
           have hfz92_0 := blk_frozen BK331.out 0
           have hfz92_1 := blk_frozen BK331.out 1
           have hfz92_2 := blk_frozen BK331.out 2
           have hfz92_3 := blk_frozen BK331.out 3
           have hfz92_4 := blk_frozen BK331.out 4
           obtain ⟨Ao93, co93, eo93⟩ := Kd.R_slice HO_332002.out
           subst eo93
           have p89 : 0 ≤ (x13_3 : Int) := of_decide_eq_true (by first | (with_reducible assumption) | assumption)
           have q89 : (x13_3 : Int) < ((x332002_3.length : Int) : Int) := of_decide_eq_true (by first | (with_reducible assumption) | assumption)
           obtain ⟨go89, co89, eo89, gb89, gl89, cl89, HG89⟩ := Kd.R_form HO_332002.out (by omega)
           (first | cases eo89 | (injection eo89 with ea_ en_ ec_; (first | subst ea_ | (injection ea_ with ea_; subst ea_)); subst ec_; clear en_))
           have GB89 := Aside0.mk gb89
           have GG89 := Aside0.mk HG89
           clear gb89 gl89 HG89
           obtain ⟨ce89, hcl89, hM89, hcc89, hfr89⟩ := Kd.R_elem HO_332002.out z29 (x13_3 : Int) p89 q89
           obtain rfl := k29_openM hM89
           have hx89_0 : wr.cell? ⟨go89, (x13_3 : Int).toNat * 2, none⟩ = some (.string ((rd_T29 x332002_3 x13_3).f0)) := hcc89 0 _ rfl
           have hx89_1 : wr.cell? ⟨go89, (x13_3 : Int).toNat * 2 + 1, none⟩ = some (.string ((rd_T29 x332002_3 x13_3).f1)) := hcc89 1 _ rfl
           have hf89_0 : wr.frozen? ⟨go89, (x13_3 : Int).toNat * 2, none⟩ = false := hfr89 0
           have hf89_1 : wr.frozen? ⟨go89, (x13_3 : Int).toNat * 2 + 1, none⟩ = false := hfr89 1
           clear hcl89 hcc89 hfr89 hM89
           replace p89 := eq_true p89
           replace q89 := eq_true q89
           have HX94 := Aside0.mk (show Kd.R k29 29 wr w.heap.size (fun k_ => some k_ ≠ (u321002 : Value).ownBlock ∧ some k_ ≠ (u322002 : Value).ownBlock) (.slice (some ⟨go89, 0, none⟩) x332002_3.length co93) x332002_3 from (q1_ HO_332002.out))
           obtain ⟨ce94, hcl94, hM94, hcc94, hfr94⟩ := Kd.R_elem HX94.out z29 (x13_3 : Int) (of_decide_eq_true (by first | (with_reducible assumption) | assumption)) (by have h_ : (x13_3 : Int) < ((x332002_3.length : Int) : Int) := of_decide_eq_true (by first | (with_reducible assumption) | assumption); first | exact h_ | (have e_ := (Kd.R_reads' HO_332002.out).1; omega) | simpa using h_)
           obtain rfl := k29_openM hM94
           have HP94 := Kd.R_seg HX94.out (x13_3 : Int) (of_decide_eq_true (by first | (with_reducible assumption) | assumption)) (by have h_ : (x13_3 : Int) < ((x332002_3.length : Int) : Int) := of_decide_eq_true (by first | (with_reducible assumption) | assumption); first | exact h_ | (have e_ := (Kd.R_reads' HO_332002.out).1; omega) | simpa using h_) (seg := [.string (⟨#[116, 117, 114, 110, 101, 100]⟩ : ByteArray)]) (j := 1) hcl94 hcc94 (show 2 ≤ 2 from by decide) (x' := (⟨(rd_T29 x332002_3 x13_3).f0, (⟨#[116, 117, 114, 110, 101, 100]⟩ : ByteArray)⟩ : S29)) (k29_mkM _ _ _ (⟨(rd_T29 x332002_3 x13_3).f0, (⟨#[116, 117, 114, 110, 101, 100]⟩ : ByteArray)⟩ : S29) ) (fun _ hk => hk)
           have hx94_1 := hcc94 1 _ rfl
           (try simp only [show (k29).sz = 2 from rfl, Nat.mul_one, Nat.add_zero] at hx94_1)
           have hf94_1 := hfr94 1
           (try simp only [show (k29).sz = 2 from rfl, Nat.mul_one, Nat.add_zero] at hf94_1)
           clear hcl94 hcc94 hfr94 hM94
           go_wp2_with (first | ((with_reducible refine gate_store (t := 9) (p := 80) rfl ?_); refine store_event (t := 9) (p := 80) (v := ?vo_w95) (w1 := (wr.setCell ⟨go89, (x13_3 : Int).toNat * 2 + 1, none⟩ (.string (⟨#[116, 117, 114, 110, 101, 100]⟩ : ByteArray)))) ?hg ?ho ?hn ?hr ?_; (case ho => rfl); (case hg => rfl); (case hn => rfl); (case hr => first | (go_simp; done) | (go_simp; rfl)); intro w95 hw; have hg : wr.grownBy w95 (some go89) := (by rw [hw]; exact HP94.2); have hp_ : Kd.R k29 29 w95 w.heap.size (fun k_ => some k_ ≠ (u321002 : Value).ownBlock ∧ some k_ ≠ (u322002 : Value).ownBlock) (.slice (some ⟨go89, 0, none⟩) x332002_3.length co93) y341 := (by rw [hw, Ny341.out]; exact HP94.1); clear HP94; have n0_ := Aside0.mk (Kd.R_after (v := (.slice (some ⟨go89, 0, none⟩) x332002_3.length co93)) (v1 := (.slice (some ⟨go89, 0, none⟩) x332002_3.length co93)) (ok := (fun k_ => some k_ ≠ (u322002 : Value).ownBlock)) (q1_ HO_321002.out) hg (.inl rfl)); have n1_ := Aside0.mk (Kd.R_over' (v := (.slice (some ⟨go89, 0, none⟩) x332002_3.length co93)) (q1_ HO_321003.out) (Kd.R_typed HO_332002.out) (by decide) hg); have n2_ := Aside0.mk (Kd.R_after (v := (.slice (some ⟨go89, 0, none⟩) x332002_3.length co93)) (v1 := (.slice (some ⟨go89, 0, none⟩) x332002_3.length co93)) (ok := (fun k_ => some k_ ≠ (u321002 : Value).ownBlock)) (q1_ HO_322002.out) hg (.inl rfl)); have n3_ := Aside0.mk (Kd.R_over' (v := (.slice (some ⟨go89, 0, none⟩) x332002_3.length co93)) (q1_ HO_322003.out) (Kd.R_typed HO_332002.out) (by decide) hg); have n4_ := Aside0.mk (hp_); have n5_ := Aside0.mk (Kd.R_over' (v := (.slice (some ⟨go89, 0, none⟩) x332002_3.length co93)) (q1_ HO_332003.out) (Kd.R_typed HO_332002.out) (by decide) hg); have n6_ := Aside0.mk (blk_grown (g := gb320) (o := .cells #[.int .i64 t302, .string t303, u321002, u321003, .int .i64 t310] 26 (0, 0)) (q3_ BK320.out) hg (Kd.R_ne HO_332002.out BK320.out (by decide))); have n7_ := Aside0.mk (blk_grown (g := gb321) (o := .cells #[.int .i64 t311, .string t312, u322002, u322003, .int .i64 t319] 26 (0, 0)) (q3_ BK321.out) hg (Kd.R_ne HO_332002.out BK321.out (by decide))); have n8_ := Aside0.mk (blk_grown (g := gb331) (o := .cells #[.int .i64 t322, .string t323, .slice (some ⟨go89, 0, none⟩) x332002_3.length co93, .slice Ao86 x332003_2.length co86, .int .i64 t330] 26 (0, 0)) (q3_ BK331.out) hg (Kd.R_ne HO_332002.out BK331.out (by decide))); have n9_ := Aside0.mk ((by rw [hw]; exact below_set (HB.out) GB89.out : Below w.heap.size w w95)); clear HO_321002; clear HO_321003; clear HO_322002; clear HO_322003; clear HO_332002; clear HO_332003; clear BK320; clear BK321; clear BK331; clear HB; have HO_321002 := n0_; have HO_321003 := n1_; have HO_322002 := n2_; have HO_322003 := n3_; have HO_332002 := n4_; have HO_332003 := n5_; have BK320 := n6_; have BK321 := n7_; have BK331 := n8_; have HB := n9_; clear n0_ n1_ n2_ n3_ n4_ n5_ n6_ n7_ n8_ n9_; clear hg hw hp_))
           go_roundg k3
           case measure => have := HJ7.out; have := HK2.out; have := HK3.out; omega
           case rel => exact ⟨(wrap64 (x13_3 + 1)), (x321002_3), (x322002_3), (y341), (u321002), (u322002), (.slice (some ⟨go89, 0, none⟩) x332002_3.length co93), (by first | rfl | (simp; done) | (simp [*]; done)), H', ⟨by have := HJ7.out; have := HK2.out; have := HK3.out; omega⟩, ⟨by (with_reducible repeat (first | apply Kd.R_alloc | apply Kd.R_drewN | apply Kd.R_drew)); exact HO_321002.out⟩, ⟨by (with_reducible repeat (first | apply Kd.R_alloc | apply Kd.R_drewN | apply Kd.R_drew)); exact HO_321003.out⟩, ⟨by (with_reducible repeat (first | apply Kd.R_alloc | apply Kd.R_drewN | apply Kd.R_drew)); exact HO_322002.out⟩, ⟨by (with_reducible repeat (first | apply Kd.R_alloc | apply Kd.R_drewN | apply Kd.R_drew)); exact HO_322003.out⟩, ⟨by (with_reducible repeat (first | apply Kd.R_alloc | apply Kd.R_drewN | apply Kd.R_drew)); exact HO_332002.out⟩, ⟨by (with_reducible repeat (first | apply Kd.R_alloc | apply Kd.R_drewN | apply Kd.R_drew)); exact HO_332003.out⟩, ⟨by (with_reducible repeat (first | refine blk_drewN ?_ _ | refine blk_drew ?_ | refine blk_alloc ?_ _)); exact BK320.out⟩, ⟨by (with_reducible repeat (first | refine blk_drewN ?_ _ | refine blk_drew ?_ | refine blk_alloc ?_ _)); exact BK321.out⟩, ⟨by (with_reducible repeat (first | refine blk_drewN ?_ _ | refine blk_drew ?_ | refine blk_alloc ?_ _)); exact BK331.out⟩, ⟨(q8_ HB.out GE320.out GE321.out GE331.out)⟩⟩
          ·rw [if_neg c88] at H
           exact absurd H (by simp)
         ·rw [if_neg c87] at H
          have c87b0 : decide (x13_3 < (x332002_3.length : Int)) = false := decide_eq_false c87
          clear c87
          replace H := Option.bind_eq_some_iff.mp H
          obtain ⟨⟨t342, t343, t344, t347, t350⟩, A960, H⟩ := H
          replace H : ((caravanref5_SameItem.f k3 t302 t303 x321002_3 x321003_2 t310 t342 t343 t344 t347 t350).bind fun t351 => (if t351 = true then ((caravanlaw5_awake.f k3).bind fun t352 => (some t352)) else (some false))) = some r := H
          have A96 := Aside0.mk A960
          clear A960
          replace H := Option.bind_eq_some_iff.mp H
          obtain ⟨t351, A970, H⟩ := H
          replace H : (if t351 = true then ((caravanlaw5_awake.f k3).bind fun t352 => (some t352)) else (some false)) = some r := H
          have A97 := Aside0.mk A970
          clear A970
          by_cases c98 : t351 = true
          ·subst c98
           have H1 : ((caravanlaw5_awake.f k3).bind fun t352 => (some t352)) = some r := by rw [if_pos rfl] at H; exact H
           clear H
           have H := H1
           clear H1
           replace H := Option.bind_eq_some_iff.mp H
           obtain ⟨t352, A990, H⟩ := H
           replace H : (some t352) = some r := H
           have A99 := Aside0.mk A990
           clear A990
           obtain rfl := Option.some.inj H
           have hnb100 := NB331_320.out
           have hnc100 := NB320_331.out
           have hnb101 := NB331_321.out
           have hnc101 := NB321_331.out
           have hcz102_0 : wr.cell? ⟨gb331, 0, none⟩ = some (.int .i64 t322) := (blk_cell BK331.out 0).trans rfl
           have hcz102_1 : wr.cell? ⟨gb331, 1, none⟩ = some (.string t323) := (blk_cell BK331.out 1).trans rfl
           have hcz102_2 : wr.cell? ⟨gb331, 2, none⟩ = some (u332002) := (blk_cell BK331.out 2).trans rfl
           have hcz102_3 : wr.cell? ⟨gb331, 3, none⟩ = some (.slice Ao86 x332003_2.length co86) := (blk_cell BK331.out 3).trans rfl
           have hcz102_4 : wr.cell? ⟨gb331, 4, none⟩ = some (.int .i64 t330) := (blk_cell BK331.out 4).trans rfl
           have hfz102_0 := blk_frozen BK331.out 0
           have hfz102_1 := blk_frozen BK331.out 1
           have hfz102_2 := blk_frozen BK331.out 2
           have hfz102_3 := blk_frozen BK331.out 3
           have hfz102_4 := blk_frozen BK331.out 4
           obtain ⟨Ao103, co103, eo103⟩ := Kd.R_slice HO_332002.out
           subst eo103
           try go_wp2
           have n0_ := Aside0.mk (Kd.R_drew HO_321002.out)
           have n1_ := Aside0.mk (Kd.R_drew HO_321003.out)
           have n2_ := Aside0.mk (Kd.R_drew HO_322002.out)
           have n3_ := Aside0.mk (Kd.R_drew HO_322003.out)
           have n4_ := Aside0.mk (Kd.R_drew HO_332002.out)
           have n5_ := Aside0.mk (Kd.R_drew HO_332003.out)
           have n6_ := Aside0.mk (blk_drew BK320.out)
           have n7_ := Aside0.mk (blk_drew BK321.out)
           have n8_ := Aside0.mk (blk_drew BK331.out)
           have n9_ := Aside0.mk (below_drew1 HB.out)
           clear HO_321002
           clear HO_321003
           clear HO_322002
           clear HO_322003
           clear HO_332002
           clear HO_332003
           clear BK320
           clear BK321
           clear BK331
           clear HB
           have HO_321002 := n0_
           have HO_321003 := n1_
           have HO_322002 := n2_
           have HO_322003 := n3_
           have HO_332002 := n4_
           have HO_332003 := n5_
           have BK320 := n6_
           have BK321 := n7_
           have BK331 := n8_
           have HB := n9_
           clear n0_ n1_ n2_ n3_ n4_ n5_ n6_ n7_ n8_ n9_
           refine start_ (n := 9) (S := fun w' => w'.cell? ⟨gb320, 0, none⟩ = some (.int .i64 t302) ∧ w'.cell? ⟨gb320, 1, none⟩ = some (.string t303) ∧ w'.cell? ⟨gb320, 2, none⟩ = some (u321002) ∧ w'.cell? ⟨gb320, 3, none⟩ = some (u321003) ∧ w'.cell? ⟨gb320, 4, none⟩ = some (.int .i64 t310)) (ds := []) (ml_ 9 0) (by kernel_rfl) rfl rfl ⟨(blk_cell BK320.out 0).trans rfl, (blk_cell BK320.out 1).trans rfl, (blk_cell BK320.out 2).trans rfl, (blk_cell BK320.out 3).trans rfl, (blk_cell BK320.out 4).trans rfl⟩ (fun hHeld => ?_); refine with_tabW caravanlaw5_ItemMade.tab13 caravanlaw5_ItemMade.bits13 (fun HT_ HW_ => ?_)
           generalize wr.drew = w104 at HO_321002 HO_321003 HO_322002 HO_322003 HO_332002 HO_332003 BK320 BK321 BK331 HB hHeld ⊢
           refine pA_ 1 82 (ml_ 9 2) rfl rfl HT_.out ?_
           refine pA_ 2 83 (ml_ 9 6) rfl rfl HT_.out ?_
           refine t5_ 0 81 (ml_ 9 7) rfl rfl HT_.out HW_.out hHeld ?_
           refine one_ (i := 3) (N := some 84) (ml_ 9 15) rfl rfl (one_of HT_.out (by kernel_rfl)) (by decide) (fun K hK => ?_)
           refine goes_ Try.func20 (by kernel_rfl) rfl #[.slice A0 l0.length c0, .int .u8 a2] (by rfl) rfl rfl qM_ ?_
           with_reducible refine (caravanlaw5_Make.calls k3 _ _ l0 a2 t342 t343 t344 t347 t350 _ ?side1 ?side2 A96.out).mono ?_
           (case side1 => exact qC_ ((Kd.C_below HR0.out HB.out)))
           (case side2 => exact HC0.out)
           rintro e w105 ⟨v345, v348, rfl, ho0, ho1, hb⟩
           refine ⟨_, rfl, ?_⟩
           have n0_ := Aside0.mk (Kd.R_elder' (q1_ HO_321002.out) (Kd.R_base ho0) hb)
           have n1_ := Aside0.mk (Kd.R_elder' (q1_ HO_321003.out) (Kd.R_base ho1) hb)
           have n2_ := Aside0.mk (Kd.R_elder' (q1_ HO_322002.out) (Kd.R_base ho0) hb)
           have n3_ := Aside0.mk (Kd.R_elder' (q1_ HO_322003.out) (Kd.R_base ho1) hb)
           have n4_ := Aside0.mk (Kd.R_elder' (q1_ HO_332002.out) (Kd.R_base ho0) hb)
           have n5_ := Aside0.mk (Kd.R_elder' (q1_ HO_332003.out) (Kd.R_base ho1) hb)
           have n6_ := Aside0.mk (Kd.R_lower (Kd.R_new' (Kd.R_new' (Kd.R_new' ho0 (Kd.R_lt (q1_ HO_321002.out))) (Kd.R_lt (q1_ HO_322002.out))) (Kd.R_lt (q1_ HO_332002.out))) (below_size (q8_ HB.out GE320.out GE321.out GE331.out)))
           have n7_ := Aside0.mk (Kd.R_lower (Kd.R_new' (Kd.R_new' (Kd.R_new' ho1 (Kd.R_lt (q1_ HO_321003.out))) (Kd.R_lt (q1_ HO_322003.out))) (Kd.R_lt (q1_ HO_332003.out))) (below_size (q8_ HB.out GE320.out GE321.out GE331.out)))
           have n8_ := Aside0.mk (blk_below (g := gb320) (o := .cells #[.int .i64 t302, .string t303, u321002, u321003, .int .i64 t310] 26 (0, 0)) (q3_ BK320.out) hb)
           have n9_ := Aside0.mk (blk_below (g := gb321) (o := .cells #[.int .i64 t311, .string t312, u322002, u322003, .int .i64 t319] 26 (0, 0)) (q3_ BK321.out) hb)
           have n10_ := Aside0.mk (blk_below (g := gb331) (o := .cells #[.int .i64 t322, .string t323, .slice Ao103 x332002_3.length co103, .slice Ao86 x332003_2.length co86, .int .i64 t330] 26 (0, 0)) (q3_ BK331.out) hb)
           have n11_ := Aside0.mk (below_step (q8_ HB.out GE320.out GE321.out GE331.out) hb)
           clear HO_321002
           clear HO_321003
           clear HO_322002
           clear HO_322003
           clear HO_332002
           clear HO_332003
           clear BK320
           clear BK321
           clear BK331
           clear HB
           have HO_321002 := n0_
           have HO_321003 := n1_
           have HO_322002 := n2_
           have HO_322003 := n3_
           have HO_332002 := n4_
           have HO_332003 := n5_
           have HO346 := n6_
           have HO349 := n7_
           have BK320 := n8_
           have BK321 := n9_
           have BK331 := n10_
           have HB := n11_
           clear n0_ n1_ n2_ n3_ n4_ n5_ n6_ n7_ n8_ n9_ n10_ n11_
           (try clear hb)
           (try clear hb2)
           (try clear hk)
           (try clear hi)
           (try clear ho0)
           (try clear ho1)
           obtain ⟨Ao106, co106, eo106⟩ := Kd.R_slice HO_321002.out
           (first | subst eo106 | (injection eo106 with f1_ f2_ f3_; have f4_ := f1_.symm; have f5_ := f3_.symm; clear f1_ f2_ f3_; subst f4_; subst f5_))
           obtain ⟨Ao107, co107, eo107⟩ := Kd.R_slice HO_321003.out
           (first | subst eo107 | (injection eo107 with f1_ f2_ f3_; have f4_ := f1_.symm; have f5_ := f3_.symm; clear f1_ f2_ f3_; subst f4_; subst f5_))
           obtain ⟨Ao108, co108, eo108⟩ := Kd.R_slice HO346.out
           (first | subst eo108 | (injection eo108 with f1_ f2_ f3_; have f4_ := f1_.symm; have f5_ := f3_.symm; clear f1_ f2_ f3_; subst f4_; subst f5_))
           obtain ⟨Ao109, co109, eo109⟩ := Kd.R_slice HO349.out
           (first | subst eo109 | (injection eo109 with f1_ f2_ f3_; have f4_ := f1_.symm; have f5_ := f3_.symm; clear f1_ f2_ f3_; subst f4_; subst f5_))
           refine hK.out _ _ ⟨(blk_cell BK320.out 0).trans rfl, (blk_cell BK320.out 1).trans rfl, (blk_cell BK320.out 2).trans rfl, (blk_cell BK320.out 3).trans rfl, (blk_cell BK320.out 4).trans rfl⟩ (fun hHeld => ?_)
           clear hK K
           refine nA_ 84 ?_
           refine one_ (i := 4) (N := some 85) (ml_ 9 31) rfl rfl (one_of HT_.out (by kernel_rfl)) (by decide) (fun K hK => ?_)
           refine goes_ Try.func18 (by kernel_rfl) rfl #[.agg #[.int .i64 t302, .string t303, .slice Ao106 x321002_3.length co106, .slice Ao107 x321003_2.length co107, .int .i64 t310], .agg #[.int .i64 t342, .string t343, .slice Ao108 t344.length co108, .slice Ao109 t347.length co109, .int .i64 t350]] (by rfl) rfl rfl qM_ ?_
           with_reducible refine (caravanref5_SameItem.calls k3 t302 t303 _ _ x321002_3 _ _ x321003_2 t310 t342 t343 _ _ t344 _ _ t347 t350 true _ ?side1 ?side2 ?side3 ?side4 ?side5 ?side6 ?side7 ?side8 A97.out).mono ?_
           (case side1 => exact qC_ ((Kd.R_reads' HO_321002.out).2.2))
           (case side2 => exact (Kd.R_reads' HO_321002.out).2.1)
           (case side3 => exact qC_ ((Kd.R_reads' HO_321003.out).2.2))
           (case side4 => exact (Kd.R_reads' HO_321003.out).2.1)
           (case side5 => exact qC_ ((Kd.R_reads' HO346.out).2.2))
           (case side6 => exact (Kd.R_reads' HO346.out).2.1)
           (case side7 => exact qC_ ((Kd.R_reads' HO349.out).2.2))
           (case side8 => exact (Kd.R_reads' HO349.out).2.1)
           rintro e w110 ⟨rfl, hb⟩
           refine ⟨_, rfl, ?_⟩
           have n0_ := Aside0.mk (Kd.R_below (q1_ HO_321002.out) hb)
           have n1_ := Aside0.mk (Kd.R_below (q1_ HO_321003.out) hb)
           have n2_ := Aside0.mk (Kd.R_below (q1_ HO_322002.out) hb)
           have n3_ := Aside0.mk (Kd.R_below (q1_ HO_322003.out) hb)
           have n4_ := Aside0.mk (Kd.R_below (q1_ HO_332002.out) hb)
           have n5_ := Aside0.mk (Kd.R_below (q1_ HO_332003.out) hb)
           have n6_ := Aside0.mk (Kd.R_below (q1_ HO346.out) hb)
           have n7_ := Aside0.mk (Kd.R_below (q1_ HO349.out) hb)
           have n8_ := Aside0.mk (blk_below (g := gb320) (o := .cells #[.int .i64 t302, .string t303, .slice Ao106 x321002_3.length co106, .slice Ao107 x321003_2.length co107, .int .i64 t310] 26 (0, 0)) (q3_ BK320.out) hb)
           have n9_ := Aside0.mk (blk_below (g := gb321) (o := .cells #[.int .i64 t311, .string t312, u322002, u322003, .int .i64 t319] 26 (0, 0)) (q3_ BK321.out) hb)
           have n10_ := Aside0.mk (blk_below (g := gb331) (o := .cells #[.int .i64 t322, .string t323, .slice Ao103 x332002_3.length co103, .slice Ao86 x332003_2.length co86, .int .i64 t330] 26 (0, 0)) (q3_ BK331.out) hb)
           have n11_ := Aside0.mk (below_step (q8_ HB.out GE320.out GE321.out GE331.out) hb)
           clear HO_321002
           clear HO_321003
           clear HO_322002
           clear HO_322003
           clear HO_332002
           clear HO_332003
           clear HO346
           clear HO349
           clear BK320
           clear BK321
           clear BK331
           clear HB
           have HO_321002 := n0_
           have HO_321003 := n1_
           have HO_322002 := n2_
           have HO_322003 := n3_
           have HO_332002 := n4_
           have HO_332003 := n5_
           have HO346 := n6_
           have HO349 := n7_
           have BK320 := n8_
           have BK321 := n9_
           have BK331 := n10_
           have HB := n11_
           clear n0_ n1_ n2_ n3_ n4_ n5_ n6_ n7_ n8_ n9_ n10_ n11_
           (try clear hb)
           (try clear hb2)
           (try clear hk)
           (try clear hi)
           refine hK.out _ _ ⟨(blk_cell BK320.out 0).trans rfl, (blk_cell BK320.out 1).trans rfl, (blk_cell BK320.out 2).trans rfl, (blk_cell BK320.out 3).trans rfl, (blk_cell BK320.out 4).trans rfl⟩ (fun hHeld => ?_)
           clear hK K
           refine nA_ 85 ?_
           refine pA_ 5 86 (ml_ 9 63) rfl rfl HT_.out ?_
           refine one_ (i := 6) (N := some 87) (ml_ 9 127) rfl rfl (one_of HT_.out (by kernel_rfl)) (by decide) (fun K hK => ?_)
           refine goes_ Try.func10 (by kernel_rfl) rfl #[] (by rfl) rfl rfl qM_ ?_
           with_reducible refine (caravanlaw5_awake.calls k3  t352 _ A99.out).mono ?_
           rintro e w111 ⟨rfl, hb⟩
           refine ⟨_, rfl, ?_⟩
           have n0_ := Aside0.mk (Kd.R_below (q1_ HO_321002.out) hb)
           have n1_ := Aside0.mk (Kd.R_below (q1_ HO_321003.out) hb)
           have n2_ := Aside0.mk (Kd.R_below (q1_ HO_322002.out) hb)
           have n3_ := Aside0.mk (Kd.R_below (q1_ HO_322003.out) hb)
           have n4_ := Aside0.mk (Kd.R_below (q1_ HO_332002.out) hb)
           have n5_ := Aside0.mk (Kd.R_below (q1_ HO_332003.out) hb)
           have n6_ := Aside0.mk (Kd.R_below (q1_ HO346.out) hb)
           have n7_ := Aside0.mk (Kd.R_below (q1_ HO349.out) hb)
           have n8_ := Aside0.mk (blk_below (g := gb320) (o := .cells #[.int .i64 t302, .string t303, .slice Ao106 x321002_3.length co106, .slice Ao107 x321003_2.length co107, .int .i64 t310] 26 (0, 0)) (q3_ BK320.out) hb)
           have n9_ := Aside0.mk (blk_below (g := gb321) (o := .cells #[.int .i64 t311, .string t312, u322002, u322003, .int .i64 t319] 26 (0, 0)) (q3_ BK321.out) hb)
           have n10_ := Aside0.mk (blk_below (g := gb331) (o := .cells #[.int .i64 t322, .string t323, .slice Ao103 x332002_3.length co103, .slice Ao86 x332003_2.length co86, .int .i64 t330] 26 (0, 0)) (q3_ BK331.out) hb)
           have n11_ := Aside0.mk (below_step (q8_ HB.out GE320.out GE321.out GE331.out) hb)
           clear HO_321002
           clear HO_321003
           clear HO_322002
           clear HO_322003
           clear HO_332002
           clear HO_332003
           clear HO346
           clear HO349
           clear BK320
           clear BK321
           clear BK331
           clear HB
           have HO_321002 := n0_
           have HO_321003 := n1_
           have HO_322002 := n2_
           have HO_322003 := n3_
           have HO_332002 := n4_
           have HO_332003 := n5_
           have HO346 := n6_
           have HO349 := n7_
           have BK320 := n8_
           have BK321 := n9_
           have BK331 := n10_
           have HB := n11_
           clear n0_ n1_ n2_ n3_ n4_ n5_ n6_ n7_ n8_ n9_ n10_ n11_
           (try clear hb)
           (try clear hb2)
           (try clear hk)
           (try clear hi)
           refine hK.out _ _ ⟨(blk_cell BK320.out 0).trans rfl, (blk_cell BK320.out 1).trans rfl, (blk_cell BK320.out 2).trans rfl, (blk_cell BK320.out 3).trans rfl, (blk_cell BK320.out 4).trans rfl⟩ (fun hHeld => ?_)
           clear hK K
           refine nA_ 87 ?_
           refine pA_ 7 88 (ml_ 9 255) rfl rfl HT_.out ?_
           refine pA_ 8 8 (ml_ 9 511) rfl rfl HT_.out ?_
           refine done_ (done_of HT_.out (by kernel_rfl)) ?_
           try go_wp2
           go_ret
           exact ⟨by first | rfl | (simp [errW_none, errW_some] <;> rfl) | (simp [*, errW_none, errW_some] <;> rfl), (q8_ HB.out GE320.out GE321.out GE331.out)⟩
          ·replace c98 := Bool.eq_false_iff.mpr c98
           subst c98
           have H1 : (some false) = some r := by rw [if_neg (show ¬ (false = true) by decide)] at H; exact H
           clear H
           have H := H1
           clear H1
           obtain rfl := Option.some.inj H
           have hnb112 := NB331_320.out
           have hnc112 := NB320_331.out
           have hnb113 := NB331_321.out
           have hnc113 := NB321_331.out
           have hcz114_0 : wr.cell? ⟨gb331, 0, none⟩ = some (.int .i64 t322) := (blk_cell BK331.out 0).trans rfl
           have hcz114_1 : wr.cell? ⟨gb331, 1, none⟩ = some (.string t323) := (blk_cell BK331.out 1).trans rfl
           have hcz114_2 : wr.cell? ⟨gb331, 2, none⟩ = some (u332002) := (blk_cell BK331.out 2).trans rfl
           have hcz114_3 : wr.cell? ⟨gb331, 3, none⟩ = some (.slice Ao86 x332003_2.length co86) := (blk_cell BK331.out 3).trans rfl
           have hcz114_4 : wr.cell? ⟨gb331, 4, none⟩ = some (.int .i64 t330) := (blk_cell BK331.out 4).trans rfl
           have hfz114_0 := blk_frozen BK331.out 0
           have hfz114_1 := blk_frozen BK331.out 1
           have hfz114_2 := blk_frozen BK331.out 2
           have hfz114_3 := blk_frozen BK331.out 3
           have hfz114_4 := blk_frozen BK331.out 4
           obtain ⟨Ao115, co115, eo115⟩ := Kd.R_slice HO_332002.out
           subst eo115
           try go_wp2
           have n0_ := Aside0.mk (Kd.R_drew HO_321002.out)
           have n1_ := Aside0.mk (Kd.R_drew HO_321003.out)
           have n2_ := Aside0.mk (Kd.R_drew HO_322002.out)
           have n3_ := Aside0.mk (Kd.R_drew HO_322003.out)
           have n4_ := Aside0.mk (Kd.R_drew HO_332002.out)
           have n5_ := Aside0.mk (Kd.R_drew HO_332003.out)
           have n6_ := Aside0.mk (blk_drew BK320.out)
           have n7_ := Aside0.mk (blk_drew BK321.out)
           have n8_ := Aside0.mk (blk_drew BK331.out)
           have n9_ := Aside0.mk (below_drew1 HB.out)
           clear HO_321002
           clear HO_321003
           clear HO_322002
           clear HO_322003
           clear HO_332002
           clear HO_332003
           clear BK320
           clear BK321
           clear BK331
           clear HB
           have HO_321002 := n0_
           have HO_321003 := n1_
           have HO_322002 := n2_
           have HO_322003 := n3_
           have HO_332002 := n4_
           have HO_332003 := n5_
           have BK320 := n6_
           have BK321 := n7_
           have BK331 := n8_
           have HB := n9_
           clear n0_ n1_ n2_ n3_ n4_ n5_ n6_ n7_ n8_ n9_
           refine start_ (n := 9) (S := fun w' => w'.cell? ⟨gb320, 0, none⟩ = some (.int .i64 t302) ∧ w'.cell? ⟨gb320, 1, none⟩ = some (.string t303) ∧ w'.cell? ⟨gb320, 2, none⟩ = some (u321002) ∧ w'.cell? ⟨gb320, 3, none⟩ = some (u321003) ∧ w'.cell? ⟨gb320, 4, none⟩ = some (.int .i64 t310)) (ds := []) (ml_ 9 0) (by kernel_rfl) rfl rfl ⟨(blk_cell BK320.out 0).trans rfl, (blk_cell BK320.out 1).trans rfl, (blk_cell BK320.out 2).trans rfl, (blk_cell BK320.out 3).trans rfl, (blk_cell BK320.out 4).trans rfl⟩ (fun hHeld => ?_); refine with_tabW caravanlaw5_ItemMade.tab13 caravanlaw5_ItemMade.bits13 (fun HT_ HW_ => ?_)
           generalize wr.drew = w116 at HO_321002 HO_321003 HO_322002 HO_322003 HO_332002 HO_332003 BK320 BK321 BK331 HB hHeld ⊢
           refine pA_ 1 82 (ml_ 9 2) rfl rfl HT_.out ?_
           refine pA_ 2 83 (ml_ 9 6) rfl rfl HT_.out ?_
           refine t5_ 0 81 (ml_ 9 7) rfl rfl HT_.out HW_.out hHeld ?_
           refine one_ (i := 3) (N := some 84) (ml_ 9 15) rfl rfl (one_of HT_.out (by kernel_rfl)) (by decide) (fun K hK => ?_)
           refine goes_ Try.func20 (by kernel_rfl) rfl #[.slice A0 l0.length c0, .int .u8 a2] (by rfl) rfl rfl qM_ ?_
           with_reducible refine (caravanlaw5_Make.calls k3 _ _ l0 a2 t342 t343 t344 t347 t350 _ ?side1 ?side2 A96.out).mono ?_
           (case side1 => exact qC_ ((Kd.C_below HR0.out HB.out)))
           (case side2 => exact HC0.out)
           rintro e w117 ⟨v345, v348, rfl, ho0, ho1, hb⟩
           refine ⟨_, rfl, ?_⟩
           have n0_ := Aside0.mk (Kd.R_elder' (q1_ HO_321002.out) (Kd.R_base ho0) hb)
           have n1_ := Aside0.mk (Kd.R_elder' (q1_ HO_321003.out) (Kd.R_base ho1) hb)
           have n2_ := Aside0.mk (Kd.R_elder' (q1_ HO_322002.out) (Kd.R_base ho0) hb)
           have n3_ := Aside0.mk (Kd.R_elder' (q1_ HO_322003.out) (Kd.R_base ho1) hb)
           have n4_ := Aside0.mk (Kd.R_elder' (q1_ HO_332002.out) (Kd.R_base ho0) hb)
           have n5_ := Aside0.mk (Kd.R_elder' (q1_ HO_332003.out) (Kd.R_base ho1) hb)
           have n6_ := Aside0.mk (Kd.R_lower (Kd.R_new' (Kd.R_new' (Kd.R_new' ho0 (Kd.R_lt (q1_ HO_321002.out))) (Kd.R_lt (q1_ HO_322002.out))) (Kd.R_lt (q1_ HO_332002.out))) (below_size (q8_ HB.out GE320.out GE321.out GE331.out)))
           have n7_ := Aside0.mk (Kd.R_lower (Kd.R_new' (Kd.R_new' (Kd.R_new' ho1 (Kd.R_lt (q1_ HO_321003.out))) (Kd.R_lt (q1_ HO_322003.out))) (Kd.R_lt (q1_ HO_332003.out))) (below_size (q8_ HB.out GE320.out GE321.out GE331.out)))
           have n8_ := Aside0.mk (blk_below (g := gb320) (o := .cells #[.int .i64 t302, .string t303, u321002, u321003, .int .i64 t310] 26 (0, 0)) (q3_ BK320.out) hb)
           have n9_ := Aside0.mk (blk_below (g := gb321) (o := .cells #[.int .i64 t311, .string t312, u322002, u322003, .int .i64 t319] 26 (0, 0)) (q3_ BK321.out) hb)
           have n10_ := Aside0.mk (blk_below (g := gb331) (o := .cells #[.int .i64 t322, .string t323, .slice Ao115 x332002_3.length co115, .slice Ao86 x332003_2.length co86, .int .i64 t330] 26 (0, 0)) (q3_ BK331.out) hb)
           have n11_ := Aside0.mk (below_step (q8_ HB.out GE320.out GE321.out GE331.out) hb)
           clear HO_321002
           clear HO_321003
           clear HO_322002
           clear HO_322003
           clear HO_332002
           clear HO_332003
           clear BK320
           clear BK321
           clear BK331
           clear HB
           have HO_321002 := n0_
           have HO_321003 := n1_
           have HO_322002 := n2_
           have HO_322003 := n3_
           have HO_332002 := n4_
           have HO_332003 := n5_
           have HO346 := n6_
           have HO349 := n7_
           have BK320 := n8_
           have BK321 := n9_
           have BK331 := n10_
           have HB := n11_
           clear n0_ n1_ n2_ n3_ n4_ n5_ n6_ n7_ n8_ n9_ n10_ n11_
           (try clear hb)
           (try clear hb2)
           (try clear hk)
           (try clear hi)
           (try clear ho0)
           (try clear ho1)
           obtain ⟨Ao118, co118, eo118⟩ := Kd.R_slice HO_321002.out
           (first | subst eo118 | (injection eo118 with f1_ f2_ f3_; have f4_ := f1_.symm; have f5_ := f3_.symm; clear f1_ f2_ f3_; subst f4_; subst f5_))
           obtain ⟨Ao119, co119, eo119⟩ := Kd.R_slice HO_321003.out
           (first | subst eo119 | (injection eo119 with f1_ f2_ f3_; have f4_ := f1_.symm; have f5_ := f3_.symm; clear f1_ f2_ f3_; subst f4_; subst f5_))
           obtain ⟨Ao120, co120, eo120⟩ := Kd.R_slice HO346.out
           (first | subst eo120 | (injection eo120 with f1_ f2_ f3_; have f4_ := f1_.symm; have f5_ := f3_.symm; clear f1_ f2_ f3_; subst f4_; subst f5_))
           obtain ⟨Ao121, co121, eo121⟩ := Kd.R_slice HO349.out
           (first | subst eo121 | (injection eo121 with f1_ f2_ f3_; have f4_ := f1_.symm; have f5_ := f3_.symm; clear f1_ f2_ f3_; subst f4_; subst f5_))
           refine hK.out _ _ ⟨(blk_cell BK320.out 0).trans rfl, (blk_cell BK320.out 1).trans rfl, (blk_cell BK320.out 2).trans rfl, (blk_cell BK320.out 3).trans rfl, (blk_cell BK320.out 4).trans rfl⟩ (fun hHeld => ?_)
           clear hK K
           refine nA_ 84 ?_
           refine one_ (i := 4) (N := some 85) (ml_ 9 31) rfl rfl (one_of HT_.out (by kernel_rfl)) (by decide) (fun K hK => ?_)
           refine goes_ Try.func18 (by kernel_rfl) rfl #[.agg #[.int .i64 t302, .string t303, .slice Ao118 x321002_3.length co118, .slice Ao119 x321003_2.length co119, .int .i64 t310], .agg #[.int .i64 t342, .string t343, .slice Ao120 t344.length co120, .slice Ao121 t347.length co121, .int .i64 t350]] (by rfl) rfl rfl qM_ ?_
           with_reducible refine (caravanref5_SameItem.calls k3 t302 t303 _ _ x321002_3 _ _ x321003_2 t310 t342 t343 _ _ t344 _ _ t347 t350 false _ ?side1 ?side2 ?side3 ?side4 ?side5 ?side6 ?side7 ?side8 A97.out).mono ?_
           (case side1 => exact qC_ ((Kd.R_reads' HO_321002.out).2.2))
           (case side2 => exact (Kd.R_reads' HO_321002.out).2.1)
           (case side3 => exact qC_ ((Kd.R_reads' HO_321003.out).2.2))
           (case side4 => exact (Kd.R_reads' HO_321003.out).2.1)
           (case side5 => exact qC_ ((Kd.R_reads' HO346.out).2.2))
           (case side6 => exact (Kd.R_reads' HO346.out).2.1)
           (case side7 => exact qC_ ((Kd.R_reads' HO349.out).2.2))
           (case side8 => exact (Kd.R_reads' HO349.out).2.1)
           rintro e w122 ⟨rfl, hb⟩
           refine ⟨_, rfl, ?_⟩
           have n0_ := Aside0.mk (Kd.R_below (q1_ HO_321002.out) hb)
           have n1_ := Aside0.mk (Kd.R_below (q1_ HO_321003.out) hb)
           have n2_ := Aside0.mk (Kd.R_below (q1_ HO_322002.out) hb)
           have n3_ := Aside0.mk (Kd.R_below (q1_ HO_322003.out) hb)
           have n4_ := Aside0.mk (Kd.R_below (q1_ HO_332002.out) hb)
           have n5_ := Aside0.mk (Kd.R_below (q1_ HO_332003.out) hb)
           have n6_ := Aside0.mk (Kd.R_below (q1_ HO346.out) hb)
           have n7_ := Aside0.mk (Kd.R_below (q1_ HO349.out) hb)
           have n8_ := Aside0.mk (blk_below (g := gb320) (o := .cells #[.int .i64 t302, .string t303, .slice Ao118 x321002_3.length co118, .slice Ao119 x321003_2.length co119, .int .i64 t310] 26 (0, 0)) (q3_ BK320.out) hb)
           have n9_ := Aside0.mk (blk_below (g := gb321) (o := .cells #[.int .i64 t311, .string t312, u322002, u322003, .int .i64 t319] 26 (0, 0)) (q3_ BK321.out) hb)
           have n10_ := Aside0.mk (blk_below (g := gb331) (o := .cells #[.int .i64 t322, .string t323, .slice Ao115 x332002_3.length co115, .slice Ao86 x332003_2.length co86, .int .i64 t330] 26 (0, 0)) (q3_ BK331.out) hb)
           have n11_ := Aside0.mk (below_step (q8_ HB.out GE320.out GE321.out GE331.out) hb)
           clear HO_321002
           clear HO_321003
           clear HO_322002
           clear HO_322003
           clear HO_332002
           clear HO_332003
           clear HO346
           clear HO349
           clear BK320
           clear BK321
           clear BK331
           clear HB
           have HO_321002 := n0_
           have HO_321003 := n1_
           have HO_322002 := n2_
           have HO_322003 := n3_
           have HO_332002 := n4_
           have HO_332003 := n5_
           have HO346 := n6_
           have HO349 := n7_
           have BK320 := n8_
           have BK321 := n9_
           have BK331 := n10_
           have HB := n11_
           clear n0_ n1_ n2_ n3_ n4_ n5_ n6_ n7_ n8_ n9_ n10_ n11_
           (try clear hb)
           (try clear hb2)
           (try clear hk)
           (try clear hi)
           refine hK.out _ _ ⟨(blk_cell BK320.out 0).trans rfl, (blk_cell BK320.out 1).trans rfl, (blk_cell BK320.out 2).trans rfl, (blk_cell BK320.out 3).trans rfl, (blk_cell BK320.out 4).trans rfl⟩ (fun hHeld => ?_)
           clear hK K
           refine nA_ 85 ?_
           refine pA_ 5 86 (ml_ 9 63) rfl rfl HT_.out ?_
           refine pU_ 6 87 (ml_ 9 127) rfl rfl HT_.out ?_
           refine pA_ 7 88 (ml_ 9 255) rfl rfl HT_.out ?_
           refine pA_ 8 8 (ml_ 9 511) rfl rfl HT_.out ?_
           refine done_ (done_of HT_.out (by kernel_rfl)) ?_
           try go_wp2
           go_ret
           exact ⟨by first | rfl | (simp [errW_none, errW_some] <;> rfl) | (simp [*, errW_none, errW_some] <;> rfl), (q8_ HB.out GE320.out GE321.out GE331.out)⟩

/-- THE ONE PURE STATEMENT of caravanlaw5_ItemMade: yours. -/
def caravanlaw5_ItemMade.Pure : Prop := ∀ (l0 : List Int) (l1 : List Int) (a2 : Int) (a3 : Int), l0.length ≤ maxLen → l0.length * 1 ≤ 140737488351232 → (∀ x ∈ l0, (Lit.int .u8 x).wf = true) → l1.length ≤ maxLen → l1.length * 1 ≤ 140737488351232 → (∀ x ∈ l1, (Lit.int .u8 x).wf = true) → (Lit.int .u8 a2).wf = true → (Lit.int .i16 a3).wf = true → ∃ k, caravanlaw5_ItemMade.f k l0 l1 a2 a3 = some true
theorem caravanlaw5_ItemMade.walk (P : caravanlaw5_ItemMade.Pure) (a0 : Option Addr) (len0 cap0 : Nat) (z0 : List Int) (a1 : Option Addr) (len1 cap1 : Nat) (z1 : List Int) (a2 : Int) (a3 : Int) (w : World) (w0 : (a0 = none ∧ len0 = 0 ∧ cap0 = 0 ∧ z0 = []) ∨ ∃ x, a0 = some x ∧ len0 ≤ cap0 ∧ cap0 ≤ maxLen ∧ z0.length = cap0 ∧ (∀ i, i < z0.length → w.cell? (x.add i) = some (.int .u8 (z0.getD i 0))) ∧ ∀ n ∈ z0, (Lit.int .u8 n).wf = true) (y0 : len0 * 1 ≤ 140737488351232) (w1 : (a1 = none ∧ len1 = 0 ∧ cap1 = 0 ∧ z1 = []) ∨ ∃ x, a1 = some x ∧ len1 ≤ cap1 ∧ cap1 ≤ maxLen ∧ z1.length = cap1 ∧ (∀ i, i < z1.length → w.cell? (x.add i) = some (.int .u8 (z1.getD i 0))) ∧ ∀ n ∈ z1, (Lit.int .u8 n).wf = true) (y1 : len1 * 1 ≤ 140737488351232) (w2 : (Lit.int .u8 a2).wf = true) (w3 : (Lit.int .i16 a3).wf = true) :
 Calls Try.prog 6 #[.slice a0 len0 cap0, .slice a1 len1 cap1, .int .u8 a2, .int .i16 a3] w fun e w' => e = .returned (.bool true) ∧ Below w.heap.size w w' := by
 obtain ⟨l0, rfl, hr0, hm0, hw0, hc0⟩ := ReadsInt.ofRowC w0
 obtain ⟨l1, rfl, hr1, hm1, hw1, hc1⟩ := ReadsInt.ofRowC w1
 obtain ⟨k, h⟩ := P l0 l1 a2 a3 hm0 y0 hw0 hm1 y1 hw1 w2 w3
 refine (caravanlaw5_ItemMade.calls k _ _ l0 _ _ l1 a2 a3 true w (Kd.C_of_reads (d := (0 : Int)) (h1 := fun _ => rfl) hr0) hc0 (Kd.C_of_reads (d := (0 : Int)) (h1 := fun _ => rfl) hr1) hc1 h).mono ?_
 rintro e w' ⟨rfl, hd⟩
 exact ⟨rfl, hd⟩

end Go.Proofs.Ytbmimcpllpgcaaa.G
