/- What functions of the translation come to, and their calls' proofs; by a program of mine over the kit's print, with contracts given by hand beside. Conditions: where a plain function tells none, nothing is said. -/
import Derived.Test.YtelgfangaigncaaG0
import Derived.Test.YtelgfangaigncaaG1
import Derived.Test.YtelgfangaigncaaG3
import Derived.Test.YtelgfangaigncaaG5
import Derived.Test.YtelgfangaigncaaGBoth
import Derived.Test.YtelgfangaigncaaGOf
namespace Go.Proofs.Ytelgfangaigncaa.G
open Go.RowKit Go.Proofs.YtelgfangaigncaaW.PrintWords Go.Proofs.YtelgfangaigncaaW.PrintLast Go.Proofs.YtelgfangaigncaaW.PrintMore
attribute [local go_sem] max2_int min2_int max_two min_two max_three min_three max_four min_four   -- for this text's walks alone
set_option linter.unusedVariables false
set_option linter.unusedSimpArgs false

/-! ### caravanlaw9_SetsAll: function 5 -/
mutual
def caravanlaw9_SetsAll.j0 : Nat → List (List ByteArray) → ByteArray → Bool → Option (Bool)
 | 0, _, _, _ => none
 | k + 1, x0, x1, x14 => if x14 = true then ((caravanlaw9_awake.f).bind fun t321 => (some t321)) else (caravanlaw9_SetsAll.l0 k x0 x1 ([] : List (List ByteArray)) 0)
def caravanlaw9_SetsAll.l0 : Nat → List (List ByteArray) → ByteArray → List (List ByteArray) → Int → Option (Bool)
 | 0, _, _, _, _ => none
 | k + 1, x0, x1, x5, x6 => if x6 < (x0.length : Int) then (if 0 ≤ x6 then ((caravanlaw9_great.f k (rd_L1 x0 x6)).bind fun t323 => (if t323 = true then ((caravanlaw9_awake.f).bind fun t324 => (some t324)) else ((caravanref5_SOf.f k (rd_L1 x0 x6)).bind fun t326 => (if x5.length < 5864062014805 then ((some (x5 ++ [t326] : List (List ByteArray))).bind fun y329 => ((sets_Of.f (rd_L1 x0 x6)).bind fun t333 => (if x6 < (y329.length : Int) then ((caravanref1_Texts.f k t333 (rd_L1 y329 x6)).bind fun t337 => (if t337 = true then ((sets_Has.f k (rd_L1 y329 x6) x1).bind fun t339 => ((caravanref5_SHas.f k (rd_L1 y329 x6) x1).bind fun t341 => (if (t339 != t341) = true then (some false) else (caravanlaw9_SetsAll.l0 k x0 x1 y329 (wrap64 (x6 + 1)))))) else (some false))) else (none)))) else (none))))) else (none)) else ((sets_Both.f x5).bind fun t342 => ((caravanref5_SBoth.f k x5).bind fun t345 => ((caravanref1_Texts.f k t342 t345).bind fun t348 => (if t348 = true then ((sets_Union.f x5).bind fun t349 => ((caravanref5_SUnion.f k x5).bind fun t352 => ((caravanref1_Texts.f k t349 t352).bind fun t355 => (caravanlaw9_SetsAll.j2 k x5 (!t355))))) else (caravanlaw9_SetsAll.j2 k x5 true)))))
def caravanlaw9_SetsAll.j2 : Nat → List (List ByteArray) → Bool → Option (Bool)
 | 0, _, _ => none
 | k + 1, x5, x75 => if x75 = true then (some false) else (if (x5.length : Int) = 0 then ((caravanlaw9_awake.f).bind fun t356 => (some t356)) else (if 0 < (x5.length : Int) then (if 1 ≤ (x5.length : Int) then ((sets_Minus.f (rd_L1 x5 0) (x5.drop 1)).bind fun t362 => ((caravanref5_SMinus.f k (rd_L1 x5 0) (x5.drop 1)).bind fun t370 => ((caravanref1_Texts.f k t362 t370).bind fun t373 => (if t373 = true then ((caravanlaw9_awake.f).bind fun t374 => (some t374)) else (some false))))) else (none)) else (none)))
end
def caravanlaw9_SetsAll.f (k : Nat) (l0 : List (List ByteArray)) (a1 : ByteArray) : Option (Bool) := if (l0.length : Int) > 8 then (caravanlaw9_SetsAll.j0 k l0 a1 true) else (caravanlaw9_SetsAll.j0 k l0 a1 (decide ((a1.size : Int) > 200)))
theorem caravanlaw9_SetsAll.mono_l : ∀ k, (∀ y0 y1 y2, LeO (caravanlaw9_SetsAll.j0 k y0 y1 y2) (caravanlaw9_SetsAll.j0 (k + 1) y0 y1 y2)) ∧ (∀ y0 y1 y2 y3, LeO (caravanlaw9_SetsAll.l0 k y0 y1 y2 y3) (caravanlaw9_SetsAll.l0 (k + 1) y0 y1 y2 y3)) ∧ (∀ y0 y1, LeO (caravanlaw9_SetsAll.j2 k y0 y1) (caravanlaw9_SetsAll.j2 (k + 1) y0 y1))
 | 0 => ⟨fun _ _ _ r h => by simp [caravanlaw9_SetsAll.j0] at h, fun _ _ _ _ r h => by simp [caravanlaw9_SetsAll.l0] at h, fun _ _ r h => by simp [caravanlaw9_SetsAll.j2] at h⟩
 | k + 1 => by
  obtain ⟨ih0, ih1, ih2⟩ := caravanlaw9_SetsAll.mono_l k
  refine ⟨?_, ?_, ?_⟩
  ·intro y0 y1 y2
   unfold caravanlaw9_SetsAll.j0
   repeat' first
   | (with_reducible exact ih0 _ _ _)
   | (with_reducible exact ih1 _ _ _ _)
   | (with_reducible exact ih2 _ _)
   | (with_reducible exact caravanlaw9_great.mono _ _)
   | (with_reducible exact caravanref1_Texts.mono _ _ _)
   | (with_reducible exact caravanref5_SBoth.mono _ _)
   | (with_reducible exact caravanref5_SHas.mono _ _ _)
   | (with_reducible exact caravanref5_SMinus.mono _ _ _)
   | (with_reducible exact caravanref5_SOf.mono _ _)
   | (with_reducible exact caravanref5_SUnion.mono _ _)
   | (with_reducible exact sets_Has.mono _ _ _)
   | (with_reducible exact LeO.refl _)
   | (with_reducible exact LeO.none _)
   | (with_reducible refine LeO.ite ?_ ?_)
   | (with_reducible refine LeO.bind ?_ (fun _ => ?_))
   | exact ih0 _ _ _
   | exact ih1 _ _ _ _
   | exact ih2 _ _
   | exact caravanlaw9_great.mono _ _
   | exact caravanref1_Texts.mono _ _ _
   | exact caravanref5_SBoth.mono _ _
   | exact caravanref5_SHas.mono _ _ _
   | exact caravanref5_SMinus.mono _ _ _
   | exact caravanref5_SOf.mono _ _
   | exact caravanref5_SUnion.mono _ _
   | exact sets_Has.mono _ _ _
   | exact LeO.none _
   | refine LeO.ite ?_ ?_
   | refine LeO.bind ?_ (fun _ => ?_)
  ·intro y0 y1 y2 y3
   unfold caravanlaw9_SetsAll.l0
   repeat' first
   | (with_reducible exact ih0 _ _ _)
   | (with_reducible exact ih1 _ _ _ _)
   | (with_reducible exact ih2 _ _)
   | (with_reducible exact caravanlaw9_great.mono _ _)
   | (with_reducible exact caravanref1_Texts.mono _ _ _)
   | (with_reducible exact caravanref5_SBoth.mono _ _)
   | (with_reducible exact caravanref5_SHas.mono _ _ _)
   | (with_reducible exact caravanref5_SMinus.mono _ _ _)
   | (with_reducible exact caravanref5_SOf.mono _ _)
   | (with_reducible exact caravanref5_SUnion.mono _ _)
   | (with_reducible exact sets_Has.mono _ _ _)
   | (with_reducible exact LeO.refl _)
   | (with_reducible exact LeO.none _)
   | (with_reducible refine LeO.ite ?_ ?_)
   | (with_reducible refine LeO.bind ?_ (fun _ => ?_))
   | exact ih0 _ _ _
   | exact ih1 _ _ _ _
   | exact ih2 _ _
   | exact caravanlaw9_great.mono _ _
   | exact caravanref1_Texts.mono _ _ _
   | exact caravanref5_SBoth.mono _ _
   | exact caravanref5_SHas.mono _ _ _
   | exact caravanref5_SMinus.mono _ _ _
   | exact caravanref5_SOf.mono _ _
   | exact caravanref5_SUnion.mono _ _
   | exact sets_Has.mono _ _ _
   | exact LeO.none _
   | refine LeO.ite ?_ ?_
   | refine LeO.bind ?_ (fun _ => ?_)
  ·intro y0 y1
   unfold caravanlaw9_SetsAll.j2
   repeat' first
   | (with_reducible exact ih0 _ _ _)
   | (with_reducible exact ih1 _ _ _ _)
   | (with_reducible exact ih2 _ _)
   | (with_reducible exact caravanlaw9_great.mono _ _)
   | (with_reducible exact caravanref1_Texts.mono _ _ _)
   | (with_reducible exact caravanref5_SBoth.mono _ _)
   | (with_reducible exact caravanref5_SHas.mono _ _ _)
   | (with_reducible exact caravanref5_SMinus.mono _ _ _)
   | (with_reducible exact caravanref5_SOf.mono _ _)
   | (with_reducible exact caravanref5_SUnion.mono _ _)
   | (with_reducible exact sets_Has.mono _ _ _)
   | (with_reducible exact LeO.refl _)
   | (with_reducible exact LeO.none _)
   | (with_reducible refine LeO.ite ?_ ?_)
   | (with_reducible refine LeO.bind ?_ (fun _ => ?_))
   | exact ih0 _ _ _
   | exact ih1 _ _ _ _
   | exact ih2 _ _
   | exact caravanlaw9_great.mono _ _
   | exact caravanref1_Texts.mono _ _ _
   | exact caravanref5_SBoth.mono _ _
   | exact caravanref5_SHas.mono _ _ _
   | exact caravanref5_SMinus.mono _ _ _
   | exact caravanref5_SOf.mono _ _
   | exact caravanref5_SUnion.mono _ _
   | exact sets_Has.mono _ _ _
   | exact LeO.none _
   | refine LeO.ite ?_ ?_
   | refine LeO.bind ?_ (fun _ => ?_)
theorem caravanlaw9_SetsAll.mono : ∀ a0 a1 k, LeO (caravanlaw9_SetsAll.f k a0 a1) (caravanlaw9_SetsAll.f (k + 1) a0 a1) := by
 intro a0 a1 k
 obtain ⟨ih0, ih1, ih2⟩ := caravanlaw9_SetsAll.mono_l k
 unfold caravanlaw9_SetsAll.f
 repeat' first
  | (with_reducible exact ih0 _ _ _)
  | (with_reducible exact ih1 _ _ _ _)
  | (with_reducible exact ih2 _ _)
  | (with_reducible exact caravanlaw9_great.mono _ _)
  | (with_reducible exact caravanref1_Texts.mono _ _ _)
  | (with_reducible exact caravanref5_SBoth.mono _ _)
  | (with_reducible exact caravanref5_SHas.mono _ _ _)
  | (with_reducible exact caravanref5_SMinus.mono _ _ _)
  | (with_reducible exact caravanref5_SOf.mono _ _)
  | (with_reducible exact caravanref5_SUnion.mono _ _)
  | (with_reducible exact sets_Has.mono _ _ _)
  | (with_reducible exact LeO.refl _)
  | (with_reducible exact LeO.none _)
  | (with_reducible refine LeO.ite ?_ ?_)
  | (with_reducible refine LeO.bind ?_ (fun _ => ?_))
  | exact ih0 _ _ _
  | exact ih1 _ _ _ _
  | exact ih2 _ _
  | exact caravanlaw9_great.mono _ _
  | exact caravanref1_Texts.mono _ _ _
  | exact caravanref5_SBoth.mono _ _
  | exact caravanref5_SHas.mono _ _ _
  | exact caravanref5_SMinus.mono _ _ _
  | exact caravanref5_SOf.mono _ _
  | exact caravanref5_SUnion.mono _ _
  | exact sets_Has.mono _ _ _
  | exact LeO.none _
  | refine LeO.ite ?_ ?_
  | refine LeO.bind ?_ (fun _ => ?_)
def caravanlaw9_SetsAll.T10 : Bool × List (List Nat × List Nat) := (true, [([], []), ([], []), ([0, 1], [0, 1]), ([2], [2]), ([3], [3]), ([], []), ([], []), ([5, 6], [5, 6]), ([7], [7]), ([4, 8, 4], [4, 8]), ([9], [9]), ([10, 9], [10]), ([11], [11]), ([11], [11]), ([12, 13, 11], [11, 12, 13]), ([14, 11], [11, 14]), ([11], [11]), ([15, 16, 11, 11], [11, 15, 16]), ([11], [11]), ([11], [11]), ([18, 19, 11], [11, 18, 19]), ([20, 11], [11, 20]), ([11], [11]), ([21, 22, 17, 11], [11, 21, 22]), ([17, 23, 11], [11, 17, 23]), ([11, 24], [11, 24])])
def caravanlaw9_SetsAll.B10 : List Nat := [0, 0, 3, 7, 15, 0, 0, 96, 224, 511, 1023, 2047, 4095, 4095, 16383, 32767, 4095, 131071, 4095, 4095, 790527, 1839103, 4095, 8388607, 16777215, 33554431]
theorem caravanlaw9_SetsAll.tab10 : rtab .any (opsOf Try.f5 10) = caravanlaw9_SetsAll.T10 := by kernel_rfl
theorem caravanlaw9_SetsAll.bits10 : waitsOk caravanlaw9_SetsAll.T10.2 caravanlaw9_SetsAll.B10 = true := by kernel_rfl
def caravanlaw9_SetsAll.T14 : Bool × List (List Nat × List Nat) := (true, [([], []), ([0], [0]), ([1], [1]), ([2], [2]), ([3], [3]), ([4, 3], [3, 4]), ([5, 3], [3, 5]), ([3], [3]), ([7, 3], [3, 7]), ([6, 8, 3, 3], [3, 6, 8]), ([3], [3]), ([10, 3], [3, 10]), ([11, 3], [3, 11]), ([3], [3]), ([13, 3], [3, 13]), ([12, 14, 9, 3], [3, 12, 14]), ([9, 15, 15, 3], [3, 9, 15]), ([3, 16], [3, 16]), ([17, 16], [17]), ([18, 18], [18]), ([18, 19], [18, 19]), ([20, 19, 0, 1, 2, 3, 4, 5, 6, 7, 8, 9, 10, 11, 12, 13, 14, 15, 16, 17, 18, 19, 20], [20])])
def caravanlaw9_SetsAll.B14 : List Nat := [0, 1, 3, 7, 15, 31, 63, 15, 143, 511, 15, 1039, 3087, 15, 8207, 32767, 65535, 131071, 262143, 524287, 1048575, 2097151]
theorem caravanlaw9_SetsAll.tab14 : rtab .any (opsOf Try.f5 14) = caravanlaw9_SetsAll.T14 := by kernel_rfl
theorem caravanlaw9_SetsAll.bits14 : waitsOk caravanlaw9_SetsAll.T14.2 caravanlaw9_SetsAll.B14 = true := by kernel_rfl
set_option maxHeartbeats 8000000 in
set_option maxRecDepth 100000 in
theorem caravanlaw9_SetsAll.calls (k : Nat) (A0 : Option Addr) (c0 : Nat) (l0 : List (List ByteArray)) (a1 : ByteArray) (r : Bool) (w : World) (hr0 : Kd.C (Kd.slice 9 Kd.string) w A0 l0.length l0) (hc0 : l0.length ≤ c0) (h : caravanlaw9_SetsAll.f k l0 a1 = some r) (hrt_ : r = true) :
 Calls Try.prog 5 #[.slice A0 l0.length c0, .string a1] w fun e w' => e = .returned (.bool r) ∧ Below w.heap.size w w' := by
 have HR0 := Aside0.mk hr0
 have HC0 := Aside0.mk hc0
 clear hr0 hc0
 have HB := Aside0.mk (Below.refl w.heap.size w)
 have H : (if (l0.length : Int) > 8 then (caravanlaw9_SetsAll.j0 k l0 a1 true) else (caravanlaw9_SetsAll.j0 k l0 a1 (decide ((a1.size : Int) > 200)))) = some r := h
 clear h
 have HC3 := Aside0.mk H
 clear H
 go_enter Try.func5, Try.ntmps5
 go_upto_region 1 with (fail)
 go_cut [14] (fun v14 wc => ∃ (kq : Nat) (x14_2 : Bool), v14 = .bool x14_2 ∧ Aside0 (caravanlaw9_SetsAll.j0 kq l0 a1 x14_2 = some r) ∧ Aside0 (kq ≤ k) ∧ Aside0 (Below w.heap.size w wc))
 case first =>
  have H := HC3.out
  clear HC3
  by_cases c4 : (l0.length : Int) > 8
  ·rw [if_pos c4] at H
   have c4b0 : decide (8 < (l0.length : Int)) = true := decide_eq_true c4
   have c4b1 : decide (8 < l0.length) = true := decide_eq_true (by omega)
   clear c4
   (first | rw [c4b0] | (simp only [i64_w, i32_w]; rw [c4b0]) | skip)
   have H' := Aside0.mk H
   clear H
   go_wp2
   go_meet
   case rel => exact ⟨_, (true), (by first | rfl | (simp; done) | (simp [*]; done)), H', ⟨by first | omega | exact Nat.le_refl _⟩, ⟨(qdb35_ HB.out)⟩⟩
  ·rw [if_neg c4] at H
   have c4b0 : decide (8 < (l0.length : Int)) = false := decide_eq_false c4
   have c4b1 : decide (8 < l0.length) = false := decide_eq_false (by omega)
   clear c4
   (first | rw [c4b0] | (simp only [i64_w, i32_w]; rw [c4b0]) | skip)
   have H' := Aside0.mk H
   clear H
   go_wp2
   go_meet
   case rel => exact ⟨_, (decide ((a1.size : Int) > 200)), (by first | rfl | (simp; done) | (simp [*]; done)), H', ⟨by first | omega | exact Nat.le_refl _⟩, ⟨(qdb35_ HB.out)⟩⟩
 case rest =>
  clear HC3
  try clear p2
  try clear c4
  try clear c4b0
  try clear c4b1
  obtain ⟨kq, x14_2, rfl, HA, HJ2, HB⟩ := hcut
  cases kq with
  | zero => exact absurd HA.out (by simp [caravanlaw9_SetsAll.j0])
  | succ kj2 =>
   have H := HA.out
   clear HA
   simp only [caravanlaw9_SetsAll.j0] at H
   by_cases c5 : x14_2 = true
   ·subst c5
    have H1 : ((caravanlaw9_awake.f).bind fun t321 => (some t321)) = some r := by rw [if_pos rfl] at H; exact H
    clear H
    have H := H1
    clear H1
    replace H := Option.bind_eq_some_iff.mp H
    obtain ⟨t321, A60, H⟩ := H
    replace H : (some t321) = some r := H
    have A6 := Aside0.mk A60
    clear A60
    obtain rfl := Option.some.inj H
    go_wp2_with (first | ((with_reducible refine gate_callee (f := 7) rfl ?_); refine goesL_ (some 15) rfl rfl Try.func7 (by kernel_rfl) rfl #[] rfl qM_ ?_; (with_reducible refine (caravanlaw9_awake.calls  t321 _ A6.out).mono ?_); rintro e w7 ⟨rfl, hb⟩; refine ⟨_, rfl, ?_⟩; have n0_ := Aside0.mk (below_step (qdb35_ HB.out) hb); clear HB; have HB := n0_; clear n0_; (try clear hb); (try clear hb2); (try clear hk); (try clear hi)))
    go_ret
    exact ⟨by first | rfl | (simp [errW_none, errW_some] <;> rfl) | (simp [*, errW_none, errW_some] <;> rfl), (qdb35_ HB.out)⟩
   ·replace c5 := Bool.eq_false_iff.mpr c5
    subst c5
    have H1 : (caravanlaw9_SetsAll.l0 kj2 l0 a1 ([] : List (List ByteArray)) 0) = some r := by rw [if_neg (show ¬ (false = true) by decide)] at H; exact H
    clear H
    have H := H1
    clear H1
    have H' := Aside0.mk H
    clear H
    go_wp2
    go_loopg [5, 6] kj2 (fun kq v5 v6 w' => ∃ (x5_2 : List (List ByteArray)) (x6_2 : Int), v6 = .int .i64 x6_2 ∧ Aside0 (caravanlaw9_SetsAll.l0 kq l0 a1 x5_2 x6_2 = some r) ∧ Aside0 (kq ≤ kj2) ∧ Aside0 (Kd.S (Kd.slice 9 Kd.string) 24 w' w.heap.size (fun _ => True) v5 x5_2) ∧ Aside0 (Below w.heap.size w w'))
    case atStart => exact ⟨(([] : List (List ByteArray))), (0), (by first | rfl | (simp; done) | (simp [*]; done)), H', ⟨Nat.le_refl _⟩, ⟨by first | exact Kd.S_nil _ _ _ _ _ | exact Kd.N_nil _ _ _ _ _ | exact Kd.V_nil _ _ _ _ _ | exact Kd.Q_nil _ _ _ _ _ | exact Kd.R_nil _ _ _ _ _⟩, ⟨(qdb35_ HB.out)⟩⟩
    case round =>
     clear H'
     try clear p2
     try clear c4
     try clear c4b0
     try clear c4b1
     try clear c5
     try clear c7
     try clear p2
     obtain ⟨x5_2, x6_2, rfl, HA, HK2, HO_5, HB⟩ := hrel
     cases gk with
     | zero => exact absurd HA.out (by simp [caravanlaw9_SetsAll.l0])
     | succ k2 =>
      have H := HA.out
      clear HA
      simp only [caravanlaw9_SetsAll.l0] at H
      by_cases c8 : x6_2 < (l0.length : Int)
      ·rw [if_pos c8] at H
       have c8b0 : decide (x6_2 < (l0.length : Int)) = true := decide_eq_true c8
       clear c8
       by_cases c9 : 0 ≤ x6_2
       ·rw [if_pos c9] at H
        have c9b0 : decide (0 ≤ x6_2) = true := decide_eq_true c9
        clear c9
        replace H := Option.bind_eq_some_iff.mp H
        obtain ⟨t323, A100, H⟩ := H
        replace H : (if t323 = true then ((caravanlaw9_awake.f).bind fun t324 => (some t324)) else ((caravanref5_SOf.f k2 (rd_L1 l0 x6_2)).bind fun t326 => (if x5_2.length < 5864062014805 then ((some (x5_2 ++ [t326] : List (List ByteArray))).bind fun y329 => ((sets_Of.f (rd_L1 l0 x6_2)).bind fun t333 => (if x6_2 < (y329.length : Int) then ((caravanref1_Texts.f k2 t333 (rd_L1 y329 x6_2)).bind fun t337 => (if t337 = true then ((sets_Has.f k2 (rd_L1 y329 x6_2) a1).bind fun t339 => ((caravanref5_SHas.f k2 (rd_L1 y329 x6_2) a1).bind fun t341 => (if (t339 != t341) = true then (some false) else (caravanlaw9_SetsAll.l0 k2 l0 a1 y329 (wrap64 (x6_2 + 1)))))) else (some false))) else (none)))) else (none)))) = some r := H
        have A10 := Aside0.mk A100
        clear A100
        by_cases c11 : t323 = true
        ·subst c11
         have H1 : ((caravanlaw9_awake.f).bind fun t324 => (some t324)) = some r := by rw [if_pos rfl] at H; exact H
         clear H
         have H := H1
         clear H1
         replace H := Option.bind_eq_some_iff.mp H
         obtain ⟨t324, A120, H⟩ := H
         replace H : (some t324) = some r := H
         have A12 := Aside0.mk A120
         clear A120
         obtain rfl := Option.some.inj H
         have p322 : 0 ≤ (x6_2 : Int) := of_decide_eq_true (by first | (with_reducible assumption) | assumption)
         have q322 : x6_2 < (l0.length : Int) := of_decide_eq_true (by first | (with_reducible assumption) | assumption)
         obtain ⟨ad322, A322_0, c322_0, e322, hx322_0, hl322_0, hi322_0⟩ := at_L1 HR0.out x6_2 p322 q322
         cases e322
         replace hx322_0 := (HB.out.cell (World.block_lt_of_cell? w _ hx322_0)).trans hx322_0
         have HR322_0 := Aside0.mk hi322_0
         have HC322_0 := Aside0.mk hl322_0
         clear hi322_0 hl322_0
         replace p322 := eq_true p322
         replace q322 := eq_true q322
         go_wp2_with (first | ((with_reducible refine gate_callee (f := 13) rfl ?_); refine goesL_ (some 26) rfl rfl Try.func13 (by kernel_rfl) rfl #[.slice A322_0 (rd_L1 l0 x6_2).length c322_0] rfl qM_ ?_; (with_reducible refine (caravanlaw9_great.calls k2 _ _ (rd_L1 l0 x6_2) true _ ?side1 ?side2 A10.out).mono ?_); (case side1 => exact qC_ ((Kd.C_below HR322_0.out HB.out))); (case side2 => exact HC322_0.out); rintro e w' ⟨rfl, ⟨nd, rfl⟩⟩; refine ⟨_, rfl, ?_⟩) | ((with_reducible refine gate_callee (f := 7) rfl ?_); refine goesL_ (some 27) rfl rfl Try.func7 (by kernel_rfl) rfl #[] rfl qM_ ?_; (with_reducible refine (caravanlaw9_awake.calls  t324 _ A12.out).mono ?_); rintro e w13 ⟨rfl, hb⟩; refine ⟨_, rfl, ?_⟩; have n0_ := Aside0.mk (Kd.S_below (qf630_ HO_5.out) hb); have n1_ := Aside0.mk (below_step (qdb35_ HB.out) hb); clear HO_5; clear HB; have HO_5 := n0_; have HB := n1_; clear n0_ n1_; (try clear hb); (try clear hb2); (try clear hk); (try clear hi)))
         go_ret
         exact ⟨by first | rfl | (simp [errW_none, errW_some] <;> rfl) | (simp [*, errW_none, errW_some] <;> rfl), (qdb35_ HB.out)⟩
        ·replace c11 := Bool.eq_false_iff.mpr c11
         subst c11
         have H1 : ((caravanref5_SOf.f k2 (rd_L1 l0 x6_2)).bind fun t326 => (if x5_2.length < 5864062014805 then ((some (x5_2 ++ [t326] : List (List ByteArray))).bind fun y329 => ((sets_Of.f (rd_L1 l0 x6_2)).bind fun t333 => (if x6_2 < (y329.length : Int) then ((caravanref1_Texts.f k2 t333 (rd_L1 y329 x6_2)).bind fun t337 => (if t337 = true then ((sets_Has.f k2 (rd_L1 y329 x6_2) a1).bind fun t339 => ((caravanref5_SHas.f k2 (rd_L1 y329 x6_2) a1).bind fun t341 => (if (t339 != t341) = true then (some false) else (caravanlaw9_SetsAll.l0 k2 l0 a1 y329 (wrap64 (x6_2 + 1)))))) else (some false))) else (none)))) else (none))) = some r := by rw [if_neg (show ¬ (false = true) by decide)] at H; exact H
         clear H
         have H := H1
         clear H1
         replace H := Option.bind_eq_some_iff.mp H
         obtain ⟨t326, A140, H⟩ := H
         replace H : (if x5_2.length < 5864062014805 then ((some (x5_2 ++ [t326] : List (List ByteArray))).bind fun y329 => ((sets_Of.f (rd_L1 l0 x6_2)).bind fun t333 => (if x6_2 < (y329.length : Int) then ((caravanref1_Texts.f k2 t333 (rd_L1 y329 x6_2)).bind fun t337 => (if t337 = true then ((sets_Has.f k2 (rd_L1 y329 x6_2) a1).bind fun t339 => ((caravanref5_SHas.f k2 (rd_L1 y329 x6_2) a1).bind fun t341 => (if (t339 != t341) = true then (some false) else (caravanlaw9_SetsAll.l0 k2 l0 a1 y329 (wrap64 (x6_2 + 1)))))) else (some false))) else (none)))) else (none)) = some r := H
         have A14 := Aside0.mk A140
         clear A140
         by_cases c15 : x5_2.length < 5864062014805
         ·rw [if_pos c15] at H
          have LMc15 := Aside0.mk c15
          clear c15
          obtain ⟨y329, hy329⟩ : ∃ y_ : List (List ByteArray), y_ = (x5_2 ++ [t326]) := ⟨_, rfl⟩
          replace H : ((sets_Of.f (rd_L1 l0 x6_2)).bind fun t333 => (if x6_2 < (y329.length : Int) then ((caravanref1_Texts.f k2 t333 (rd_L1 y329 x6_2)).bind fun t337 => (if t337 = true then ((sets_Has.f k2 (rd_L1 y329 x6_2) a1).bind fun t339 => ((caravanref5_SHas.f k2 (rd_L1 y329 x6_2) a1).bind fun t341 => (if (t339 != t341) = true then (some false) else (caravanlaw9_SetsAll.l0 k2 l0 a1 y329 (wrap64 (x6_2 + 1)))))) else (some false))) else (none))) = some r := by first | (rw [hy329]; with_reducible exact H) | (have H2_ := (Option.bind_some _ _).symm.trans H; rw [hy329]; with_reducible exact H2_) | (have H2_ := (Option.bind_some _ _).symm.trans H; with_reducible exact H2_) | with_reducible exact H | (rw [hy329]; exact H) | exact H
          have Ny329 := Aside0.mk hy329
          clear hy329
          replace H := Option.bind_eq_some_iff.mp H
          obtain ⟨t333, A160, H⟩ := H
          replace H : (if x6_2 < (y329.length : Int) then ((caravanref1_Texts.f k2 t333 (rd_L1 y329 x6_2)).bind fun t337 => (if t337 = true then ((sets_Has.f k2 (rd_L1 y329 x6_2) a1).bind fun t339 => ((caravanref5_SHas.f k2 (rd_L1 y329 x6_2) a1).bind fun t341 => (if (t339 != t341) = true then (some false) else (caravanlaw9_SetsAll.l0 k2 l0 a1 y329 (wrap64 (x6_2 + 1)))))) else (some false))) else (none)) = some r := H
          have A16 := Aside0.mk A160
          clear A160
          by_cases c17 : x6_2 < (y329.length : Int)
          ·rw [if_pos c17] at H
           have c17b0 : decide (x6_2 < (y329.length : Int)) = true := decide_eq_true c17
           clear c17
           replace H := Option.bind_eq_some_iff.mp H
           obtain ⟨t337, A180, H⟩ := H
           replace H : (if t337 = true then ((sets_Has.f k2 (rd_L1 y329 x6_2) a1).bind fun t339 => ((caravanref5_SHas.f k2 (rd_L1 y329 x6_2) a1).bind fun t341 => (if (t339 != t341) = true then (some false) else (caravanlaw9_SetsAll.l0 k2 l0 a1 y329 (wrap64 (x6_2 + 1)))))) else (some false)) = some r := H
           have A18 := Aside0.mk A180
           clear A180
           by_cases c19 : t337 = true
           ·subst c19
            have H1 : ((sets_Has.f k2 (rd_L1 y329 x6_2) a1).bind fun t339 => ((caravanref5_SHas.f k2 (rd_L1 y329 x6_2) a1).bind fun t341 => (if (t339 != t341) = true then (some false) else (caravanlaw9_SetsAll.l0 k2 l0 a1 y329 (wrap64 (x6_2 + 1)))))) = some r := by rw [if_pos rfl] at H; exact H
            clear H
            have H := H1
            clear H1
            replace H := Option.bind_eq_some_iff.mp H
            obtain ⟨t339, A200, H⟩ := H
            replace H : ((caravanref5_SHas.f k2 (rd_L1 y329 x6_2) a1).bind fun t341 => (if (t339 != t341) = true then (some false) else (caravanlaw9_SetsAll.l0 k2 l0 a1 y329 (wrap64 (x6_2 + 1))))) = some r := H
            have A20 := Aside0.mk A200
            clear A200
            replace H := Option.bind_eq_some_iff.mp H
            obtain ⟨t341, A210, H⟩ := H
            replace H : (if (t339 != t341) = true then (some false) else (caravanlaw9_SetsAll.l0 k2 l0 a1 y329 (wrap64 (x6_2 + 1)))) = some r := H
            have A21 := Aside0.mk A210
            clear A210
            by_cases c22 : (t339 != t341) = true
            ·rw [if_pos c22] at H
             have c22b0 : (t339 != t341) = true := c22
             (try (have c22b1 : decide (t339 = t341) = false := by simpa using c22))
             (try (have c22b2 : (t339 == t341) = false := by simpa using c22))
             (try (have c22b3 : ¬ (t339 = t341) := by simpa using c22))
             clear c22
             subst hrt_; exact absurd H (by simp)
            ·rw [if_neg c22] at H
             have c22b0 : (t339 != t341) = false := by simpa using c22
             (try (have c22b1 : decide (t339 = t341) = true := by simpa using c22))
             (try (have c22b2 : (t339 == t341) = true := by simpa using c22))
             clear c22
             have H' := Aside0.mk H
             clear H
             have p322 : 0 ≤ (x6_2 : Int) := of_decide_eq_true (by first | (with_reducible assumption) | assumption)
             have q322 : x6_2 < (l0.length : Int) := of_decide_eq_true (by first | (with_reducible assumption) | assumption)
             obtain ⟨ad322, A322_0, c322_0, e322, hx322_0, hl322_0, hi322_0⟩ := at_L1 HR0.out x6_2 p322 q322
             cases e322
             replace hx322_0 := (HB.out.cell (World.block_lt_of_cell? w _ hx322_0)).trans hx322_0
             have HR322_0 := Aside0.mk hi322_0
             have HC322_0 := Aside0.mk hl322_0
             clear hi322_0 hl322_0
             replace p322 := eq_true p322
             replace q322 := eq_true q322
             try go_wp2_with (first | ((with_reducible refine gate_callee (f := 13) rfl ?_); refine goesL_ (some 26) rfl rfl Try.func13 (by kernel_rfl) rfl #[.slice A322_0 (rd_L1 l0 x6_2).length c322_0] rfl qM_ ?_; (with_reducible refine (caravanlaw9_great.calls k2 _ _ (rd_L1 l0 x6_2) false _ ?side1 ?side2 A10.out).mono ?_); (case side1 => exact qC_ ((Kd.C_below HR322_0.out HB.out))); (case side2 => exact HC322_0.out); rintro e w' ⟨rfl, ⟨nd, rfl⟩⟩; refine ⟨_, rfl, ?_⟩; have p325 : 0 ≤ (x6_2 : Int) := of_decide_eq_true (by first | (with_reducible assumption) | assumption); have q325 : x6_2 < (l0.length : Int) := of_decide_eq_true (by first | (with_reducible assumption) | assumption); obtain ⟨ad325, A325_0, c325_0, e325, hx325_0, hl325_0, hi325_0⟩ := at_L1 HR0.out x6_2 p325 q325; obtain rfl : ad322 = ad325 := (by injection e325); replace hx325_0 := (HB.out.cell (World.block_lt_of_cell? w _ hx325_0)).trans hx325_0; have HR325_0 := Aside0.mk hi325_0; have HC325_0 := Aside0.mk hl325_0; clear hi325_0 hl325_0; replace p325 := eq_true p325; replace q325 := eq_true q325; have ea_ := Option.some.inj (hx322_0.symm.trans hx325_0); injection ea_ with ea_ en_ ec_; subst ea_; subst ec_; clear en_) | ((with_reducible refine gate_callee (f := 16) rfl ?_); refine goesL_ (some 33) rfl rfl Try.func16 (by kernel_rfl) rfl #[.slice A322_0 (rd_L1 l0 x6_2).length c322_0] rfl qM_ ?_; (with_reducible refine (caravanref5_SOf.calls k2 _ _ (rd_L1 l0 x6_2) t326 _ ?side1 ?side2 A14.out).mono ?_); (case side1 => repeat (first | exact (Kd.C_below HR325_0.out (qdb35_ HB.out)) | (with_reducible refine Kd.C_alloc ?_ _) | (with_reducible refine Kd.C_drewN ?_ _) | (with_reducible refine Kd.C_drew ?_))); (case side2 => exact HC325_0.out); rintro e w23 ⟨v327, rfl, ho0, hb⟩; refine ⟨_, rfl, ?_⟩; have n0_ := Aside0.mk (Kd.S_elder' (qf630_ HO_5.out) (Kd.R_base ho0) hb); have n1_ := Aside0.mk (Kd.R_lower ho0 (below_size (qdb35_ HB.out))); have n2_ := Aside0.mk (below_step (qdb35_ HB.out) hb); clear HO_5; clear HB; have HO_5 := n0_; have HO328 := n1_; have HB := n2_; clear n0_ n1_ n2_; (try clear hb); (try clear hb2); (try clear hk); (try clear hi); (try clear ho0); obtain ⟨Ao25, co25, eo25⟩ := Kd.R_slice HO328.out; subst eo25) | ((with_reducible refine gate_builtin (b := .append) (xs := #[.tmp 28, .tmp 34]) rfl ?_); (try (refine gate_guard (by rfl) ?_; dsimp only)); at_builtin; refine Kd.S_append (Kd.slice 9 Kd.string) (w0 := w) w.heap.size rfl (.tmp 28) (.tmp 34) 34 24 (.slice none 0 0) 24 rfl Try.underlying34 info24 rfl (by decide) (by omega) u5 x5_2 t326 [.slice Ao25 t326.length co25] (fun _ => True) (fun k_ => some k_ = (.slice Ao25 t326.length co25 : Value).ownBlock) rfl rfl ?aP (fun k_ hk_ => ((Kd.R_mono (ok' := fun k_ => ((fun _ => True)) k_ ∧ some k_ ≠ (u5 : Value).ownBlock) (Kd.R_apart' (HO328.out) (Kd.S_typed HO_5.out) (by decide)) (fun k_ hk => ⟨trivial, hk.2⟩))).1 k_ hk_.symm) ?aF ?aO ?aB ?aS ?aL ?_; (case aP => exact Kd.M_row (Kd.R_mono (Kd.R_tight rfl (Kd.R_mono (ok' := fun k_ => ((fun _ => True)) k_ ∧ some k_ ≠ (u5 : Value).ownBlock) (Kd.R_apart' (HO328.out) (Kd.S_typed HO_5.out) (by decide)) (fun k_ hk => ⟨trivial, hk.2⟩))) (fun _ h_ => h_))); (case aB => exact (qdb35_ HB.out)); (case aF => exact (fun _ _ => trivial)); (case aO => exact (by (with_reducible repeat (first | apply Kd.S_alloc | apply Kd.S_drewN | apply Kd.S_drew)); exact Kd.S_mono HO_5.out (fun k_ hk => ⟨trivial, fun e_ => hk.2 e_⟩))); (case aS => exact (below_size (qdb35_ HB.out))); (case aL => have := LMc15.out; omega); intro v330 w24 ho hb hg hat; rw [← Ny329.out] at ho; have n0_ := Aside0.mk (hb); have n1_ := Aside0.mk (ho); clear HB; clear HO_5; clear HO328; have HB := n0_; have HO331 := n1_; clear n0_ n1_; clear ho hb hg hat))
             have n0_ := Aside0.mk (Kd.S_drew HO331.out)
             have n1_ := Aside0.mk (below_drew1 HB.out)
             clear HO331
             clear HB
             have HO331 := n0_
             have HB := n1_
             clear n0_ n1_
             have p332 : 0 ≤ (x6_2 : Int) := of_decide_eq_true (by first | (with_reducible assumption) | assumption)
             have q332 : x6_2 < (l0.length : Int) := of_decide_eq_true (by first | (with_reducible assumption) | assumption)
             obtain ⟨ad332, A332_0, c332_0, e332, hx332_0, hl332_0, hi332_0⟩ := at_L1 HR0.out x6_2 p332 q332
             have hw332_0 := hx332_0
             obtain rfl : ad322 = ad332 := (by injection e332)
             replace hx332_0 := (HB.out.cell (World.block_lt_of_cell? w _ hx332_0)).trans hx332_0
             have HR332_0 := Aside0.mk hi332_0
             have HC332_0 := Aside0.mk hl332_0
             clear hi332_0 hl332_0
             replace p332 := eq_true p332
             replace q332 := eq_true q332
             obtain ⟨Ao27, co27, eo27⟩ := Kd.S_slice HO331.out
             (first | subst eo27 | (injection eo27 with f1_ f2_ f3_; have f4_ := f1_.symm; have f5_ := f3_.symm; clear f1_ f2_ f3_; subst f4_; subst f5_))
             have p336 : 0 ≤ (x6_2 : Int) := of_decide_eq_true (by first | (with_reducible assumption) | assumption)
             have q336 : x6_2 < (y329.length : Int) := of_decide_eq_true (by first | (with_reducible assumption) | assumption)
             obtain ⟨ad336, A336_0, c336_0, e336, hx336_0, hl336_0, hi336_0⟩ := at_L1 (Kd.S_reads' HO331.out).2.2 x6_2 p336 q336
             cases e336
             obtain ⟨ce336, hce336, hMe336, hcc336⟩ := Kd.S_get HO331.out [] x6_2 p336 (by first | exact q336 | exact of_decide_eq_true (by first | (with_reducible assumption) | assumption) | (have e_ := (Kd.S_reads' HO331.out).1; omega))
             obtain ⟨ve336_0, rfl, ge336_0⟩ := hMe336
             have hv336_0 := hcc336 0 _ rfl
             rw [Nat.add_zero, show ((Kd.slice 9 Kd.string)).sz = 1 from rfl, Nat.mul_one] at hv336_0
             replace hv336_0 := Option.some.inj (hv336_0.symm.trans hx336_0)
             rw [hv336_0] at ge336_0
             have HL336_0 := Aside0.mk (show Kd.R Kd.string 9 _ _ _ _ (rd_L1 y329 x6_2) from ge336_0)
             clear hv336_0 ge336_0
             clear hcc336 hce336
             have HR336_0 := Aside0.mk hi336_0
             have HC336_0 := Aside0.mk hl336_0
             clear hi336_0 hl336_0
             replace p336 := eq_true p336
             replace q336 := eq_true q336
             have p338 : 0 ≤ (x6_2 : Int) := of_decide_eq_true (by first | (with_reducible assumption) | assumption)
             have q338 : x6_2 < (y329.length : Int) := of_decide_eq_true (by first | (with_reducible assumption) | assumption)
             obtain ⟨ad338, A338_0, c338_0, e338, hx338_0, hl338_0, hi338_0⟩ := at_L1 (Kd.S_reads' HO331.out).2.2 x6_2 p338 q338
             obtain rfl : ad336 = ad338 := (by injection e338)
             obtain ⟨ce338, hce338, hMe338, hcc338⟩ := Kd.S_get HO331.out [] x6_2 p338 (by first | exact q338 | exact of_decide_eq_true (by first | (with_reducible assumption) | assumption) | (have e_ := (Kd.S_reads' HO331.out).1; omega))
             obtain ⟨ve338_0, rfl, ge338_0⟩ := hMe338
             have hv338_0 := hcc338 0 _ rfl
             rw [Nat.add_zero, show ((Kd.slice 9 Kd.string)).sz = 1 from rfl, Nat.mul_one] at hv338_0
             replace hv338_0 := Option.some.inj (hv338_0.symm.trans hx338_0)
             rw [hv338_0] at ge338_0
             have HL338_0 := Aside0.mk (show Kd.R Kd.string 9 _ _ _ _ (rd_L1 y329 x6_2) from ge338_0)
             clear hv338_0 ge338_0
             clear hcc338 hce338
             have HR338_0 := Aside0.mk hi338_0
             have HC338_0 := Aside0.mk hl338_0
             clear hi338_0 hl338_0
             have ea8_ := Option.some.inj (hx336_0.symm.trans hx338_0)
             injection ea8_ with ea8_ en8_ ec8_
             subst ea8_
             subst ec8_
             clear en8_
             replace p338 := eq_true p338
             replace q338 := eq_true q338
             have p340 : 0 ≤ (x6_2 : Int) := of_decide_eq_true (by first | (with_reducible assumption) | assumption)
             have q340 : x6_2 < (y329.length : Int) := of_decide_eq_true (by first | (with_reducible assumption) | assumption)
             obtain ⟨ad340, A340_0, c340_0, e340, hx340_0, hl340_0, hi340_0⟩ := at_L1 (Kd.S_reads' HO331.out).2.2 x6_2 p340 q340
             obtain rfl : ad336 = ad340 := (by injection e340)
             obtain ⟨ce340, hce340, hMe340, hcc340⟩ := Kd.S_get HO331.out [] x6_2 p340 (by first | exact q340 | exact of_decide_eq_true (by first | (with_reducible assumption) | assumption) | (have e_ := (Kd.S_reads' HO331.out).1; omega))
             obtain ⟨ve340_0, rfl, ge340_0⟩ := hMe340
             have hv340_0 := hcc340 0 _ rfl
             rw [Nat.add_zero, show ((Kd.slice 9 Kd.string)).sz = 1 from rfl, Nat.mul_one] at hv340_0
             replace hv340_0 := Option.some.inj (hv340_0.symm.trans hx340_0)
             rw [hv340_0] at ge340_0
             have HL340_0 := Aside0.mk (show Kd.R Kd.string 9 _ _ _ _ (rd_L1 y329 x6_2) from ge340_0)
             clear hv340_0 ge340_0
             clear hcc340 hce340
             have HR340_0 := Aside0.mk hi340_0
             have HC340_0 := Aside0.mk hl340_0
             clear hi340_0 hl340_0
             replace p340 := eq_true p340
             replace q340 := eq_true q340
             have ea_ := Option.some.inj (hx338_0.symm.trans hx340_0)
             injection ea_ with ea_ en_ ec_
             subst ea_
             subst ec_
             clear en_
             refine start_ (n := 26) (S := fun w' => w'.cell? (ad322.add (x6_2).toNat) = some (.slice A332_0 (rd_L1 l0 x6_2).length c332_0) ∧ w'.cell? (ad336.add (x6_2).toNat) = some (.slice A336_0 (rd_L1 y329 x6_2).length c336_0) ∧ w'.cell? (ad336.add (x6_2).toNat) = some (.slice A336_0 (rd_L1 y329 x6_2).length c336_0) ∧ w'.cell? (ad336.add (x6_2).toNat) = some (.slice A336_0 (rd_L1 y329 x6_2).length c336_0)) (ds := []) (ml_ 26 0) (by kernel_rfl) rfl rfl ⟨((HB.out.cell (World.block_lt_of_cell? w _ hw332_0)).trans hw332_0), hx336_0, hx338_0, hx340_0⟩ (fun hHeld => ?_); refine with_tabW caravanlaw9_SetsAll.tab10 caravanlaw9_SetsAll.bits10 (fun HT_ HW_ => ?_)
             generalize w24.drew = w26 at HO331 HB HL336_0 HL338_0 HL340_0 HR332_0 HR336_0 HR338_0 HR340_0 hx332_0 hx336_0 hx338_0 hx340_0 hHeld ⊢
             refine pA_ 0 36 (ml_ 26 1) rfl rfl HT_.out ?_
             refine pA_ 1 37 (ml_ 26 3) rfl rfl HT_.out ?_
             refine pA_ 2 38 (ml_ 26 7) rfl rfl HT_.out ?_
             refine pA_ 5 41 (ml_ 26 39) rfl rfl HT_.out ?_
             refine pA_ 6 42 (ml_ 26 103) rfl rfl HT_.out ?_
             refine pA_ 7 43 (ml_ 26 231) rfl rfl HT_.out ?_
             refine t4_ 3 39 (ml_ 26 239) rfl rfl HT_.out HW_.out hHeld ?_
             refine t4_ 8 44 (ml_ 26 495) rfl rfl HT_.out HW_.out hHeld ?_
             refine one_ (i := 4) (N := some 40) (ml_ 26 511) rfl rfl (one_of HT_.out (by kernel_rfl)) (by decide) (fun K hK => ?_)
             refine goes_ Try.func14 (by kernel_rfl) rfl #[.slice A332_0 (rd_L1 l0 x6_2).length c332_0] (by rfl) rfl rfl qM_ ?_
             with_reducible refine (sets_Of.calls _ _ (rd_L1 l0 x6_2) t333 _ ?side1 ?side2 A16.out).mono ?_
             (case side1 => exact qC_ ((Kd.C_below HR332_0.out HB.out)))
             (case side2 => exact HC332_0.out)
             rintro e w28 ⟨v334, rfl, ho0, hb⟩
             have HS1_ := (hb.cell (World.block_lt_of_cell? _ _ (hHeld.2.1))).trans (hHeld.2.1)
             have HS2_ := (hb.cell (World.block_lt_of_cell? _ _ (hHeld.2.2.1))).trans (hHeld.2.2.1)
             have HS3_ := (hb.cell (World.block_lt_of_cell? _ _ (hHeld.2.2.2))).trans (hHeld.2.2.2)
             refine ⟨_, rfl, ?_⟩
             have n0_ := Aside0.mk (Kd.S_below (qf630_ HO331.out) hb)
             have n1_ := Aside0.mk (Kd.R_below (q8524_ HL336_0.out) hb)
             have n2_ := Aside0.mk (Kd.V_lower (Kd.V_mono (ok' := fun k_ => some k_ ≠ (.slice (some ad336) y329.length co27 : Value).ownBlock) ho0 (fun k_ hk_ => (Kd.fresh' (Kd.S_lt (qf630_ HO331.out)) k_ hk_))) (below_size (qdb35_ HB.out)))
             have n3_ := Aside0.mk (Kd.C_below (q3f7a_ HR336_0.out) hb)
             have n4_ := Aside0.mk (below_step (qdb35_ HB.out) hb)
             clear HO331
             clear HL336_0
             clear HR336_0
             clear HB
             have HO331 := n0_
             have HL336_0 := n1_
             have HO335 := n2_
             have HR336_0 := n3_
             have HB := n4_
             clear n0_ n1_ n2_ n3_ n4_
             (try clear hb)
             (try clear hb2)
             (try clear hk)
             (try clear hi)
             (try clear ho0)
             obtain ⟨Ao29, co29, eo29⟩ := Kd.V_slice HO335.out
             (first | subst eo29 | (injection eo29 with f1_ f2_ f3_; have f4_ := f1_.symm; have f5_ := f3_.symm; clear f1_ f2_ f3_; subst f4_; subst f5_))
             refine hK.out _ _ ⟨((HB.out.cell (World.block_lt_of_cell? w _ hw332_0)).trans hw332_0), HS1_, HS2_, HS3_⟩ (fun hHeld => ?_)
             clear hK K
             refine nA_ 40 ?_
             refine one_ (i := 9) (N := some 45) (ml_ 26 1023) rfl rfl (one_of HT_.out (by kernel_rfl)) (by decide) (fun K hK => ?_)
             refine goes_ Try.func9 (by kernel_rfl) rfl #[.slice Ao29 t333.length co29, .slice A336_0 (rd_L1 y329 x6_2).length c336_0] (by rfl) rfl rfl qM_ ?_
             with_reducible refine (caravanref1_Texts.calls k2 _ _ t333 _ _ (rd_L1 y329 x6_2) true _ ?side1 ?side2 ?side3 ?side4 A18.out).mono ?_
             (case side1 => exact qC_ ((Kd.V_reads' HO335.out).2.2))
             (case side2 => exact (Kd.V_reads' HO335.out).2.1)
             (case side3 => repeat (first | exact (q3f7a_ HR336_0.out) | (with_reducible refine Kd.C_alloc ?_ _) | (with_reducible refine Kd.C_drewN ?_ _) | (with_reducible refine Kd.C_drew ?_)))
             (case side4 => exact HC336_0.out)
             rintro e w' ⟨rfl, ⟨nd, rfl⟩⟩
             refine ⟨_, rfl, ?_⟩
             refine hK.out _ _ ⟨((HB.out.cell (World.block_lt_of_cell? w _ hw332_0)).trans hw332_0), hHeld.2.1, hHeld.2.2.1, hHeld.2.2.2⟩ (fun hHeld => ?_)
             clear hK K
             refine nA_ 45 ?_
             refine pA_ 10 46 (ml_ 26 2047) rfl rfl HT_.out ?_
             refine pA_ 11 47 (ml_ 26 4095) rfl rfl HT_.out ?_
             refine pA_ 12 48 (ml_ 26 8191) rfl rfl HT_.out ?_
             refine pA_ 13 49 (ml_ 26 16383) rfl rfl HT_.out ?_
             refine pA_ 14 50 (ml_ 26 32767) rfl rfl HT_.out ?_
             refine pA_ 16 52 (ml_ 26 98303) rfl rfl HT_.out ?_
             refine pA_ 18 54 (ml_ 26 360447) rfl rfl HT_.out ?_
             refine pA_ 19 55 (ml_ 26 884735) rfl rfl HT_.out ?_
             refine pA_ 20 56 (ml_ 26 1933311) rfl rfl HT_.out ?_
             refine pA_ 22 58 (ml_ 26 6127615) rfl rfl HT_.out ?_
             refine t4_ 15 51 (ml_ 26 6160383) rfl rfl HT_.out HW_.out hHeld ?_
             refine t4_ 21 57 (ml_ 26 8257535) rfl rfl HT_.out HW_.out hHeld ?_
             refine one_ (i := 17) (N := some 53) (ml_ 26 8388607) rfl rfl (one_of HT_.out (by kernel_rfl)) (by decide) (fun K hK => ?_)
             refine goes_ Try.func15 (by kernel_rfl) rfl #[.slice A336_0 (rd_L1 y329 x6_2).length c336_0, .string a1] (by rfl) rfl rfl qM_ ?_
             with_reducible refine (sets_Has.calls k2 _ _ (rd_L1 y329 x6_2) a1 t339 _ ?side1 ?side2 A20.out).mono ?_
             (case side1 => repeat (first | exact (q3f7a_ HR336_0.out) | (with_reducible refine Kd.C_alloc ?_ _) | (with_reducible refine Kd.C_drewN ?_ _) | (with_reducible refine Kd.C_drew ?_)))
             (case side2 => exact HC338_0.out)
             rintro e w' ⟨rfl, ⟨nd, rfl⟩⟩
             refine ⟨_, rfl, ?_⟩
             refine hK.out _ _ ⟨((HB.out.cell (World.block_lt_of_cell? w _ hw332_0)).trans hw332_0), hHeld.2.1, hHeld.2.2.1, hHeld.2.2.2⟩ (fun hHeld => ?_)
             clear hK K
             refine nA_ 53 ?_
             refine one_ (i := 23) (N := some 59) (ml_ 26 16777215) rfl rfl (one_of HT_.out (by kernel_rfl)) (by decide) (fun K hK => ?_)
             refine goes_ Try.func17 (by kernel_rfl) rfl #[.slice A336_0 (rd_L1 y329 x6_2).length c336_0, .string a1] (by rfl) rfl rfl qM_ ?_
             with_reducible refine (caravanref5_SHas.calls k2 _ _ (rd_L1 y329 x6_2) a1 t341 _ ?side1 ?side2 A21.out).mono ?_
             (case side1 => repeat (first | exact (q3f7a_ HR336_0.out) | (with_reducible refine Kd.C_alloc ?_ _) | (with_reducible refine Kd.C_drewN ?_ _) | (with_reducible refine Kd.C_drew ?_)))
             (case side2 => exact HC340_0.out)
             rintro e w' ⟨rfl, ⟨nd, rfl⟩⟩
             refine ⟨_, rfl, ?_⟩
             refine hK.out _ _ ⟨((HB.out.cell (World.block_lt_of_cell? w _ hw332_0)).trans hw332_0), hHeld.2.1, hHeld.2.2.1, hHeld.2.2.2⟩ (fun hHeld => ?_)
             clear hK K
             refine nA_ 59 ?_
             refine pA_ 24 60 (ml_ 26 33554431) rfl rfl HT_.out ?_
             refine pA_ 25 61 (ml_ 26 67108863) rfl rfl HT_.out ?_
             refine done_ (done_of HT_.out (by kernel_rfl)) ?_
             try go_wp2
             go_roundg k2
             case measure => have := HJ2.out; have := HK2.out; omega
             case rel => exact ⟨(y329), (wrap64 (x6_2 + 1)), (by first | rfl | (simp; done) | (simp [*]; done)), H', ⟨by have := HJ2.out; have := HK2.out; omega⟩, ⟨by (with_reducible repeat (first | apply Kd.S_alloc | apply Kd.S_drewN | apply Kd.S_drew)); exact HO331.out⟩, ⟨(qdb35_ HB.out)⟩⟩
           ·replace c19 := Bool.eq_false_iff.mpr c19
            subst c19
            have H1 : (some false) = some r := by rw [if_neg (show ¬ (false = true) by decide)] at H; exact H
            clear H
            have H := H1
            clear H1
            subst hrt_; exact absurd H (by simp)
          ·rw [if_neg c17] at H
           exact absurd H (by simp)
         ·rw [if_neg c15] at H
          exact absurd H (by simp)
       ·rw [if_neg c9] at H
        exact absurd H (by simp)
      ·rw [if_neg c8] at H
       have c8b0 : decide (x6_2 < (l0.length : Int)) = false := decide_eq_false c8
       clear c8
       have HC30 := Aside0.mk H
       clear H
       go_upto_region 12 with (fail)
       go_cut [75] (fun v75 wc => ∃ (kq : Nat) (x75_29 : Bool), v75 = .bool x75_29 ∧ Aside0 (caravanlaw9_SetsAll.j2 kq x5_2 x75_29 = some r) ∧ Aside0 (kq ≤ k2) ∧ Aside0 (Kd.S (Kd.slice 9 Kd.string) 24 wc w.heap.size (fun _ => True) u5 x5_2) ∧ Aside0 (Below w.heap.size w wc))
       case first =>
        have H := HC30.out
        clear HC30
        replace H := Option.bind_eq_some_iff.mp H
        obtain ⟨t342, A310, H⟩ := H
        replace H : ((caravanref5_SBoth.f k2 x5_2).bind fun t345 => ((caravanref1_Texts.f k2 t342 t345).bind fun t348 => (if t348 = true then ((sets_Union.f x5_2).bind fun t349 => ((caravanref5_SUnion.f k2 x5_2).bind fun t352 => ((caravanref1_Texts.f k2 t349 t352).bind fun t355 => (caravanlaw9_SetsAll.j2 k2 x5_2 (!t355))))) else (caravanlaw9_SetsAll.j2 k2 x5_2 true)))) = some r := H
        have A31 := Aside0.mk A310
        clear A310
        replace H := Option.bind_eq_some_iff.mp H
        obtain ⟨t345, A320, H⟩ := H
        replace H : ((caravanref1_Texts.f k2 t342 t345).bind fun t348 => (if t348 = true then ((sets_Union.f x5_2).bind fun t349 => ((caravanref5_SUnion.f k2 x5_2).bind fun t352 => ((caravanref1_Texts.f k2 t349 t352).bind fun t355 => (caravanlaw9_SetsAll.j2 k2 x5_2 (!t355))))) else (caravanlaw9_SetsAll.j2 k2 x5_2 true))) = some r := H
        have A32 := Aside0.mk A320
        clear A320
        replace H := Option.bind_eq_some_iff.mp H
        obtain ⟨t348, A330, H⟩ := H
        replace H : (if t348 = true then ((sets_Union.f x5_2).bind fun t349 => ((caravanref5_SUnion.f k2 x5_2).bind fun t352 => ((caravanref1_Texts.f k2 t349 t352).bind fun t355 => (caravanlaw9_SetsAll.j2 k2 x5_2 (!t355))))) else (caravanlaw9_SetsAll.j2 k2 x5_2 true)) = some r := H
        have A33 := Aside0.mk A330
        clear A330
        by_cases c34 : t348 = true
        ·subst c34
         have H1 : ((sets_Union.f x5_2).bind fun t349 => ((caravanref5_SUnion.f k2 x5_2).bind fun t352 => ((caravanref1_Texts.f k2 t349 t352).bind fun t355 => (caravanlaw9_SetsAll.j2 k2 x5_2 (!t355))))) = some r := by rw [if_pos rfl] at H; exact H
         clear H
         have H := H1
         clear H1
         replace H := Option.bind_eq_some_iff.mp H
         obtain ⟨t349, A350, H⟩ := H
         replace H : ((caravanref5_SUnion.f k2 x5_2).bind fun t352 => ((caravanref1_Texts.f k2 t349 t352).bind fun t355 => (caravanlaw9_SetsAll.j2 k2 x5_2 (!t355)))) = some r := H
         have A35 := Aside0.mk A350
         clear A350
         replace H := Option.bind_eq_some_iff.mp H
         obtain ⟨t352, A360, H⟩ := H
         replace H : ((caravanref1_Texts.f k2 t349 t352).bind fun t355 => (caravanlaw9_SetsAll.j2 k2 x5_2 (!t355))) = some r := H
         have A36 := Aside0.mk A360
         clear A360
         replace H := Option.bind_eq_some_iff.mp H
         obtain ⟨t355, A370, H⟩ := H
         replace H : (caravanlaw9_SetsAll.j2 k2 x5_2 (!t355)) = some r := H
         have A37 := Aside0.mk A370
         clear A370
         have H' := Aside0.mk H
         clear H
         obtain ⟨Ao38, co38, eo38⟩ := Kd.S_slice HO_5.out
         subst eo38
         go_wp2_with (first | ((with_reducible refine gate_callee (f := 11) rfl ?_); refine goesL_ (some 63) rfl rfl Try.func11 (by kernel_rfl) rfl #[.slice Ao38 x5_2.length co38] rfl qM_ ?_; (with_reducible refine (sets_Both.calls _ _ x5_2 t342 _ ?side1 ?side2 A31.out).mono ?_); (case side1 => exact qC_ ((Kd.S_reads' HO_5.out).2.2)); (case side2 => exact (Kd.S_reads' HO_5.out).2.1); rintro e w39 ⟨v343, rfl, ho0, hb⟩; refine ⟨_, rfl, ?_⟩; have n0_ := Aside0.mk (Kd.S_below (qf630_ HO_5.out) hb); have n1_ := Aside0.mk (Kd.V_lower (Kd.V_mono (ok' := fun k_ => some k_ ≠ (.slice Ao38 x5_2.length co38 : Value).ownBlock) ho0 (fun k_ hk_ => (Kd.fresh' (Kd.S_lt (qf630_ HO_5.out)) k_ hk_))) (below_size (qdb35_ HB.out))); have n2_ := Aside0.mk (below_step (qdb35_ HB.out) hb); clear HO_5; clear HB; have HO_5 := n0_; have HO344 := n1_; have HB := n2_; clear n0_ n1_ n2_; (try clear hb); (try clear hb2); (try clear hk); (try clear hi); (try clear ho0)) | ((with_reducible refine gate_callee (f := 18) rfl ?_); refine goesL_ (some 65) rfl rfl Try.func18 (by kernel_rfl) rfl #[.slice Ao38 x5_2.length co38] rfl qM_ ?_; (with_reducible refine (caravanref5_SBoth.calls k2 _ _ x5_2 t345 _ ?side1 ?side2 A32.out).mono ?_); (case side1 => exact qC_ ((Kd.S_reads' HO_5.out).2.2)); (case side2 => exact (Kd.S_reads' HO_5.out).2.1); rintro e w40 ⟨v346, rfl, ho0, hb⟩; refine ⟨_, rfl, ?_⟩; have n0_ := Aside0.mk (Kd.S_elder' (qf630_ HO_5.out) (Kd.R_base ho0) hb); have n1_ := Aside0.mk (Kd.V_elder' (q4d18_ HO344.out) (Kd.R_base ho0) hb); have n2_ := Aside0.mk (Kd.R_lower ho0 (below_size (qdb35_ HB.out))); have n3_ := Aside0.mk (below_step (qdb35_ HB.out) hb); clear HO_5; clear HO344; clear HB; have HO_5 := n0_; have HO344 := n1_; have HO347 := n2_; have HB := n3_; clear n0_ n1_ n2_ n3_; (try clear hb); (try clear hb2); (try clear hk); (try clear hi); (try clear ho0); obtain ⟨Ao41, co41, eo41⟩ := Kd.V_slice HO344.out; subst eo41; obtain ⟨Ao42, co42, eo42⟩ := Kd.R_slice HO347.out; subst eo42) | ((with_reducible refine gate_callee (f := 9) rfl ?_); refine goesL_ (some 66) rfl rfl Try.func9 (by kernel_rfl) rfl #[.slice Ao41 t342.length co41, .slice Ao42 t345.length co42] rfl qM_ ?_; (with_reducible refine (caravanref1_Texts.calls k2 _ _ t342 _ _ t345 true _ ?side1 ?side2 ?side3 ?side4 A33.out).mono ?_); (case side1 => exact qC_ ((Kd.V_reads' HO344.out).2.2)); (case side2 => exact (Kd.V_reads' HO344.out).2.1); (case side3 => exact qC_ ((Kd.R_reads' HO347.out).2.2)); (case side4 => exact (Kd.R_reads' HO347.out).2.1); rintro e w' ⟨rfl, ⟨nd, rfl⟩⟩; refine ⟨_, rfl, ?_⟩) | (go_at_call 10; (with_reducible refine (sets_Union.calls _ _ x5_2 t349 _ ?side1 ?side2 A35.out).mono ?_); (case side1 => exact qC_ ((Kd.S_reads' HO_5.out).2.2)); (case side2 => exact (Kd.S_reads' HO_5.out).2.1); rintro e w43 ⟨v350, rfl, ho0, hb⟩; have n0_ := Aside0.mk (Kd.S_below (qf630_ HO_5.out) hb); have n1_ := Aside0.mk (Kd.V_below (q4d18_ HO344.out) hb); have n2_ := Aside0.mk (Kd.R_below (q8524_ HO347.out) hb); have n3_ := Aside0.mk (Kd.V_lower (Kd.V_mono (ok' := fun k_ => some k_ ≠ (.slice Ao38 x5_2.length co38 : Value).ownBlock ∧ some k_ ≠ (.slice Ao42 t345.length co42 : Value).ownBlock) ho0 (fun k_ hk_ => ⟨(Kd.fresh' (Kd.S_lt (qf630_ HO_5.out)) k_ hk_), (Kd.fresh' (Kd.R_lt (q8524_ HO347.out)) k_ hk_)⟩)) (below_size (qdb35_ HB.out))); have n4_ := Aside0.mk (below_step (qdb35_ HB.out) hb); clear HO_5; clear HO344; clear HO347; clear HB; have HO_5 := n0_; have HO344 := n1_; have HO347 := n2_; have HO351 := n3_; have HB := n4_; clear n0_ n1_ n2_ n3_ n4_; (try clear hb); (try clear hb2); (try clear hk); (try clear hi); (try clear ho0)) | (go_at_call 19; (with_reducible refine (caravanref5_SUnion.calls k2 _ _ x5_2 t352 _ ?side1 ?side2 A36.out).mono ?_); (case side1 => exact qC_ ((Kd.S_reads' HO_5.out).2.2)); (case side2 => exact (Kd.S_reads' HO_5.out).2.1); rintro e w44 ⟨v353, rfl, ho0, hb⟩; have n0_ := Aside0.mk (Kd.S_elder' (qf630_ HO_5.out) (Kd.R_base ho0) hb); have n1_ := Aside0.mk (Kd.V_elder' (q4d18_ HO344.out) (Kd.R_base ho0) hb); have n2_ := Aside0.mk (Kd.R_elder' (q8524_ HO347.out) (Kd.R_base ho0) hb); have n3_ := Aside0.mk (Kd.V_elder' (q4d18_ HO351.out) (Kd.R_base ho0) hb); have n4_ := Aside0.mk (Kd.R_lower (Kd.R_new' ho0 (Kd.R_lt (q8524_ HO347.out))) (below_size (qdb35_ HB.out))); have n5_ := Aside0.mk (below_step (qdb35_ HB.out) hb); clear HO_5; clear HO344; clear HO347; clear HO351; clear HB; have HO_5 := n0_; have HO344 := n1_; have HO347 := n2_; have HO351 := n3_; have HO354 := n4_; have HB := n5_; clear n0_ n1_ n2_ n3_ n4_ n5_; (try clear hb); (try clear hb2); (try clear hk); (try clear hi); (try clear ho0); obtain ⟨Ao45, co45, eo45⟩ := Kd.V_slice HO351.out; subst eo45; obtain ⟨Ao46, co46, eo46⟩ := Kd.R_slice HO354.out; subst eo46) | (go_at_call 9; (with_reducible refine (caravanref1_Texts.calls k2 _ _ t349 _ _ t352 t355 _ ?side1 ?side2 ?side3 ?side4 A37.out).mono ?_); (case side1 => exact qC_ ((Kd.V_reads' HO351.out).2.2)); (case side2 => exact (Kd.V_reads' HO351.out).2.1); (case side3 => exact qC_ ((Kd.R_reads' HO354.out).2.2)); (case side4 => exact (Kd.R_reads' HO354.out).2.1); rintro e w' ⟨rfl, ⟨nd, rfl⟩⟩))
         go_meet
         case rel => exact ⟨_, (!t355), (by first | rfl | (simp; done) | (simp [*]; done)), H', ⟨by have := HJ2.out; have := HK2.out; first | omega | exact Nat.le_refl _⟩, ⟨by (with_reducible repeat (first | apply Kd.S_alloc | apply Kd.S_drewN | apply Kd.S_drew)); exact Kd.S_mono HO_5.out (fun _ hk => trivial)⟩, ⟨(qdb35_ HB.out)⟩⟩
        ·replace c34 := Bool.eq_false_iff.mpr c34
         subst c34
         have H1 : (caravanlaw9_SetsAll.j2 k2 x5_2 true) = some r := by rw [if_neg (show ¬ (false = true) by decide)] at H; exact H
         clear H
         have H := H1
         clear H1
         have H' := Aside0.mk H
         clear H
         obtain ⟨Ao47, co47, eo47⟩ := Kd.S_slice HO_5.out
         subst eo47
         go_wp2_with (first | ((with_reducible refine gate_callee (f := 11) rfl ?_); refine goesL_ (some 63) rfl rfl Try.func11 (by kernel_rfl) rfl #[.slice Ao47 x5_2.length co47] rfl qM_ ?_; (with_reducible refine (sets_Both.calls _ _ x5_2 t342 _ ?side1 ?side2 A31.out).mono ?_); (case side1 => exact qC_ ((Kd.S_reads' HO_5.out).2.2)); (case side2 => exact (Kd.S_reads' HO_5.out).2.1); rintro e w48 ⟨v343, rfl, ho0, hb⟩; refine ⟨_, rfl, ?_⟩; have n0_ := Aside0.mk (Kd.S_below (qf630_ HO_5.out) hb); have n1_ := Aside0.mk (Kd.V_lower (Kd.V_mono (ok' := fun k_ => some k_ ≠ (.slice Ao47 x5_2.length co47 : Value).ownBlock) ho0 (fun k_ hk_ => (Kd.fresh' (Kd.S_lt (qf630_ HO_5.out)) k_ hk_))) (below_size (qdb35_ HB.out))); have n2_ := Aside0.mk (below_step (qdb35_ HB.out) hb); clear HO_5; clear HB; have HO_5 := n0_; have HO344 := n1_; have HB := n2_; clear n0_ n1_ n2_; (try clear hb); (try clear hb2); (try clear hk); (try clear hi); (try clear ho0)) | ((with_reducible refine gate_callee (f := 18) rfl ?_); refine goesL_ (some 65) rfl rfl Try.func18 (by kernel_rfl) rfl #[.slice Ao47 x5_2.length co47] rfl qM_ ?_; (with_reducible refine (caravanref5_SBoth.calls k2 _ _ x5_2 t345 _ ?side1 ?side2 A32.out).mono ?_); (case side1 => exact qC_ ((Kd.S_reads' HO_5.out).2.2)); (case side2 => exact (Kd.S_reads' HO_5.out).2.1); rintro e w49 ⟨v346, rfl, ho0, hb⟩; refine ⟨_, rfl, ?_⟩; have n0_ := Aside0.mk (Kd.S_elder' (qf630_ HO_5.out) (Kd.R_base ho0) hb); have n1_ := Aside0.mk (Kd.V_elder' (q4d18_ HO344.out) (Kd.R_base ho0) hb); have n2_ := Aside0.mk (Kd.R_lower ho0 (below_size (qdb35_ HB.out))); have n3_ := Aside0.mk (below_step (qdb35_ HB.out) hb); clear HO_5; clear HO344; clear HB; have HO_5 := n0_; have HO344 := n1_; have HO347 := n2_; have HB := n3_; clear n0_ n1_ n2_ n3_; (try clear hb); (try clear hb2); (try clear hk); (try clear hi); (try clear ho0); obtain ⟨Ao50, co50, eo50⟩ := Kd.V_slice HO344.out; subst eo50; obtain ⟨Ao51, co51, eo51⟩ := Kd.R_slice HO347.out; subst eo51) | ((with_reducible refine gate_callee (f := 9) rfl ?_); refine goesL_ (some 66) rfl rfl Try.func9 (by kernel_rfl) rfl #[.slice Ao50 t342.length co50, .slice Ao51 t345.length co51] rfl qM_ ?_; (with_reducible refine (caravanref1_Texts.calls k2 _ _ t342 _ _ t345 false _ ?side1 ?side2 ?side3 ?side4 A33.out).mono ?_); (case side1 => exact qC_ ((Kd.V_reads' HO344.out).2.2)); (case side2 => exact (Kd.V_reads' HO344.out).2.1); (case side3 => exact qC_ ((Kd.R_reads' HO347.out).2.2)); (case side4 => exact (Kd.R_reads' HO347.out).2.1); rintro e w' ⟨rfl, ⟨nd, rfl⟩⟩; refine ⟨_, rfl, ?_⟩))
         go_meet
         case rel => exact ⟨_, (true), (by first | rfl | (simp; done) | (simp [*]; done)), H', ⟨by have := HJ2.out; have := HK2.out; first | omega | exact Nat.le_refl _⟩, ⟨by (with_reducible repeat (first | apply Kd.S_alloc | apply Kd.S_drewN | apply Kd.S_drew)); exact Kd.S_mono HO_5.out (fun _ hk => trivial)⟩, ⟨(qdb35_ HB.out)⟩⟩
       case rest =>
        clear HC30
        try clear c1
        try clear c2
        try clear p2
        try clear c3
        try clear p3
        try clear q3
        try clear hx3
        try clear c4
        try clear c4b0
        try clear c4b1
        try clear c5
        try clear p6
        try clear c7
        try clear c8
        try clear c8b0
        try clear c9
        try clear c9b0
        try clear c11
        try clear c13
        try clear c14
        try clear c15
        try clear c16
        try clear c17
        try clear c17b0
        try clear c18
        try clear c19
        try clear c22
        try clear c22b0
        try clear c22b1
        try clear c22b2
        try clear c32
        try clear p32
        try clear q32
        try clear hx32
        try clear c33
        try clear p33
        try clear q33
        try clear hx33
        try clear c34
        try clear p34
        try clear q34
        try clear hx34
        try clear hx322_0
        try clear hx325_0
        try clear hx332_0
        try clear hx336_0
        try clear hx338_0
        try clear hx340_0
        try clear p2
        try clear p322
        try clear p325
        try clear p332
        try clear p336
        try clear p338
        try clear p340
        try clear q322
        try clear q325
        try clear q332
        try clear q336
        try clear q338
        try clear q340
        obtain ⟨kq, x75_29, rfl, HA, HJ29, HO_5, HB⟩ := hcut
        cases kq with
        | zero => exact absurd HA.out (by simp [caravanlaw9_SetsAll.j2])
        | succ kj29 =>
         have H := HA.out
         clear HA
         simp only [caravanlaw9_SetsAll.j2] at H
         by_cases c52 : x75_29 = true
         ·subst c52
          have H1 : (some false) = some r := by rw [if_pos rfl] at H; exact H
          clear H
          have H := H1
          clear H1
          subst hrt_; exact absurd H (by simp)
         ·replace c52 := Bool.eq_false_iff.mpr c52
          subst c52
          have H1 : (if (x5_2.length : Int) = 0 then ((caravanlaw9_awake.f).bind fun t356 => (some t356)) else (if 0 < (x5_2.length : Int) then (if 1 ≤ (x5_2.length : Int) then ((sets_Minus.f (rd_L1 x5_2 0) (x5_2.drop 1)).bind fun t362 => ((caravanref5_SMinus.f kj29 (rd_L1 x5_2 0) (x5_2.drop 1)).bind fun t370 => ((caravanref1_Texts.f kj29 t362 t370).bind fun t373 => (if t373 = true then ((caravanlaw9_awake.f).bind fun t374 => (some t374)) else (some false))))) else (none)) else (none))) = some r := by rw [if_neg (show ¬ (false = true) by decide)] at H; exact H
          clear H
          have H := H1
          clear H1
          by_cases c53 : (x5_2.length : Int) = 0
          ·rw [if_pos c53] at H
           have c53b0 : ((x5_2.length : Int) == 0) = true := beq_iff_eq.mpr c53
           have c53b1 : ((x5_2.length : Int) != 0) = false := bne_eq_false_iff_eq.mpr c53
           clear c53
           replace H := Option.bind_eq_some_iff.mp H
           obtain ⟨t356, A540, H⟩ := H
           replace H : (some t356) = some r := H
           have A54 := Aside0.mk A540
           clear A540
           obtain rfl := Option.some.inj H
           try go_wp2
           have n0_ := Aside0.mk (Kd.S_drew HO_5.out)
           have n1_ := Aside0.mk (below_drew1 HB.out)
           clear HO_5
           clear HB
           have HO_5 := n0_
           have HB := n1_
           clear n0_ n1_
           obtain ⟨Ao56, co56, eo56⟩ := Kd.S_slice HO_5.out
           (first | subst eo56 | (injection eo56 with f1_ f2_ f3_; have f4_ := f1_.symm; have f5_ := f3_.symm; clear f1_ f2_ f3_; subst f4_; subst f5_))
           refine start_ (n := 22) (S := fun w' => True) (ds := []) (ml_ 22 0) (by kernel_rfl) rfl rfl trivial (fun hHeld => ?_); refine with_tabW caravanlaw9_SetsAll.tab14 caravanlaw9_SetsAll.bits14 (fun HT_ HW_ => ?_)
           generalize wc.drew = w55 at HO_5 HB hHeld ⊢
           refine pA_ 0 76 (ml_ 22 1) rfl rfl HT_.out ?_
           refine pA_ 1 77 (ml_ 22 3) rfl rfl HT_.out ?_
           refine pA_ 2 78 (ml_ 22 7) rfl rfl HT_.out ?_
           refine pA_ 3 79 (ml_ 22 15) rfl rfl HT_.out ?_
           refine pU_ 4 80 (ml_ 22 31) rfl rfl HT_.out ?_
           refine pU_ 5 81 (ml_ 22 63) rfl rfl HT_.out ?_
           refine pU_ 6 82 (ml_ 22 127) rfl rfl HT_.out ?_
           refine pU_ 7 83 (ml_ 22 255) rfl rfl HT_.out ?_
           refine pU_ 8 84 (ml_ 22 511) rfl rfl HT_.out ?_
           refine pU_ 9 85 (ml_ 22 1023) rfl rfl HT_.out ?_
           refine pU_ 10 86 (ml_ 22 2047) rfl rfl HT_.out ?_
           refine pU_ 11 87 (ml_ 22 4095) rfl rfl HT_.out ?_
           refine pU_ 12 88 (ml_ 22 8191) rfl rfl HT_.out ?_
           refine pU_ 13 89 (ml_ 22 16383) rfl rfl HT_.out ?_
           refine pU_ 14 90 (ml_ 22 32767) rfl rfl HT_.out ?_
           refine pU_ 15 91 (ml_ 22 65535) rfl rfl HT_.out ?_
           refine pU_ 16 92 (ml_ 22 131071) rfl rfl HT_.out ?_
           refine pA_ 17 93 (ml_ 22 262143) rfl rfl HT_.out ?_
           refine pA_ 18 94 (ml_ 22 524287) rfl rfl HT_.out ?_
           refine one_ (i := 19) (N := some 95) (ml_ 22 1048575) rfl rfl (one_of HT_.out (by kernel_rfl)) (by decide) (fun K hK => ?_)
           refine goes_ Try.func7 (by kernel_rfl) rfl #[] (by rfl) rfl rfl qM_ ?_
           with_reducible refine (caravanlaw9_awake.calls  t356 _ A54.out).mono ?_
           rintro e w57 ⟨rfl, hb⟩
           refine ⟨_, rfl, ?_⟩
           have n0_ := Aside0.mk (Kd.S_below (qf630_ HO_5.out) hb)
           have n1_ := Aside0.mk (below_step (qdb35_ HB.out) hb)
           clear HO_5
           clear HB
           have HO_5 := n0_
           have HB := n1_
           clear n0_ n1_
           (try clear hb)
           (try clear hb2)
           (try clear hk)
           (try clear hi)
           refine hK.out _ _ trivial (fun hHeld => ?_)
           clear hK K
           refine nA_ 95 ?_
           refine pA_ 20 96 (ml_ 22 2097151) rfl rfl HT_.out ?_
           refine pA_ 21 4 (ml_ 22 4194303) rfl rfl HT_.out ?_
           refine done_ (done_of HT_.out (by kernel_rfl)) ?_
           try go_wp2
           go_ret
           exact ⟨by first | rfl | (simp [errW_none, errW_some] <;> rfl) | (simp [*, errW_none, errW_some] <;> rfl), (qdb35_ HB.out)⟩
          ·rw [if_neg c53] at H
           have c53b0 : ((x5_2.length : Int) == 0) = false := beq_eq_false_iff_ne.mpr c53
           have c53b1 : ((x5_2.length : Int) != 0) = true := bne_iff_ne.mpr c53
           have c53b2 : ¬ (x5_2 = []) := fun h_ => c53 (by rw [h_]; rfl)
           by_cases c58 : 0 < (x5_2.length : Int)
           ·rw [if_pos c58] at H
            have c58b0 : decide (0 < (x5_2.length : Int)) = true := decide_eq_true c58
            have c58b1 : decide (0 < x5_2.length) = true := decide_eq_true (by omega)
            clear c58
            by_cases c59 : 1 ≤ (x5_2.length : Int)
            ·rw [if_pos c59] at H
             have c59b0 := eq_true c59
             have c59b1 : decide (1 ≤ (x5_2.length : Int)) = true := decide_eq_true c59
             clear c59
             obtain ⟨y358, hy358⟩ : ∃ y_ : List (List ByteArray), y_ = (x5_2.drop 1) := ⟨_, rfl⟩
             replace H : ((sets_Minus.f (rd_L1 x5_2 0) y358).bind fun t362 => ((caravanref5_SMinus.f kj29 (rd_L1 x5_2 0) (x5_2.drop 1)).bind fun t370 => ((caravanref1_Texts.f kj29 t362 t370).bind fun t373 => (if t373 = true then ((caravanlaw9_awake.f).bind fun t374 => (some t374)) else (some false))))) = some r := by first | (rw [hy358]; with_reducible exact H) | (have H2_ := (Option.bind_some _ _).symm.trans H; rw [hy358]; with_reducible exact H2_) | (have H2_ := (Option.bind_some _ _).symm.trans H; with_reducible exact H2_) | with_reducible exact H | (rw [hy358]; exact H) | exact H
             have Ny358 := Aside0.mk hy358
             clear hy358
             replace H := Option.bind_eq_some_iff.mp H
             obtain ⟨t362, A600, H⟩ := H
             replace H : ((caravanref5_SMinus.f kj29 (rd_L1 x5_2 0) (x5_2.drop 1)).bind fun t370 => ((caravanref1_Texts.f kj29 t362 t370).bind fun t373 => (if t373 = true then ((caravanlaw9_awake.f).bind fun t374 => (some t374)) else (some false)))) = some r := H
             have A60 := Aside0.mk A600
             clear A600
             have c61b0 := eq_true (of_decide_eq_true (by first | (with_reducible assumption) | assumption) : 1 ≤ (x5_2.length : Int))
             obtain ⟨y366, hy366⟩ : ∃ y_ : List (List ByteArray), y_ = (x5_2.drop 1) := ⟨_, rfl⟩
             replace H : ((caravanref5_SMinus.f kj29 (rd_L1 x5_2 0) y366).bind fun t370 => ((caravanref1_Texts.f kj29 t362 t370).bind fun t373 => (if t373 = true then ((caravanlaw9_awake.f).bind fun t374 => (some t374)) else (some false)))) = some r := by first | (rw [hy366]; with_reducible exact H) | (have H2_ := (Option.bind_some _ _).symm.trans H; rw [hy366]; with_reducible exact H2_) | (have H2_ := (Option.bind_some _ _).symm.trans H; with_reducible exact H2_) | with_reducible exact H | (rw [hy366]; exact H) | exact H
             have Ny366 := Aside0.mk hy366
             clear hy366
             replace H := Option.bind_eq_some_iff.mp H
             obtain ⟨t370, A620, H⟩ := H
             replace H : ((caravanref1_Texts.f kj29 t362 t370).bind fun t373 => (if t373 = true then ((caravanlaw9_awake.f).bind fun t374 => (some t374)) else (some false))) = some r := H
             have A62 := Aside0.mk A620
             clear A620
             replace H := Option.bind_eq_some_iff.mp H
             obtain ⟨t373, A630, H⟩ := H
             replace H : (if t373 = true then ((caravanlaw9_awake.f).bind fun t374 => (some t374)) else (some false)) = some r := H
             have A63 := Aside0.mk A630
             clear A630
             by_cases c64 : t373 = true
             ·subst c64
              have H1 : ((caravanlaw9_awake.f).bind fun t374 => (some t374)) = some r := by rw [if_pos rfl] at H; exact H
              clear H
              have H := H1
              clear H1
              replace H := Option.bind_eq_some_iff.mp H
              obtain ⟨t374, A650, H⟩ := H
              replace H : (some t374) = some r := H
              have A65 := Aside0.mk A650
              clear A650
              obtain rfl := Option.some.inj H
              try go_wp2
              have n0_ := Aside0.mk (Kd.S_drew HO_5.out)
              have n1_ := Aside0.mk (below_drew1 HB.out)
              clear HO_5
              clear HB
              have HO_5 := n0_
              have HB := n1_
              clear n0_ n1_
              obtain ⟨Ao67, co67, eo67⟩ := Kd.S_slice HO_5.out
              (first | subst eo67 | (injection eo67 with f1_ f2_ f3_; have f4_ := f1_.symm; have f5_ := f3_.symm; clear f1_ f2_ f3_; subst f4_; subst f5_))
              have p357 : 0 ≤ (0 : Int) := (by omega)
              have q357 : 0 < (x5_2.length : Int) := of_decide_eq_true (by first | (with_reducible assumption) | assumption)
              obtain ⟨ad357, A357_0, c357_0, e357, hx357_0, hl357_0, hi357_0⟩ := at_L1 (Kd.S_reads' HO_5.out).2.2 0 p357 q357
              cases e357
              obtain ⟨ce357, hce357, hMe357, hcc357⟩ := Kd.S_get HO_5.out [] 0 p357 (by first | exact q357 | exact of_decide_eq_true (by first | (with_reducible assumption) | assumption) | (have e_ := (Kd.S_reads' HO_5.out).1; omega))
              obtain ⟨ve357_0, rfl, ge357_0⟩ := hMe357
              have hv357_0 := hcc357 0 _ rfl
              rw [Nat.add_zero, show ((Kd.slice 9 Kd.string)).sz = 1 from rfl, Nat.mul_one] at hv357_0
              replace hv357_0 := Option.some.inj (hv357_0.symm.trans hx357_0)
              rw [hv357_0] at ge357_0
              have HL357_0 := Aside0.mk (show Kd.R Kd.string 9 _ _ _ _ (rd_L1 x5_2 0) from ge357_0)
              clear hv357_0 ge357_0
              clear hcc357 hce357
              have qi357 : (0 < x5_2.length) = True := eq_true (by omega)
              (try rw [show ((0 : Int)).toNat = 0 from rfl] at hx357_0)
              (try rw [Addr.add_zero'] at hx357_0)
              have HR357_0 := Aside0.mk hi357_0
              have HC357_0 := Aside0.mk hl357_0
              clear hi357_0 hl357_0
              replace p357 := eq_true p357
              replace q357 := eq_true q357
              have q68 : (1 : Int) ≤ ((x5_2.length : Int) : Int) := of_decide_eq_true (by first | (with_reducible assumption) | assumption)
              obtain ⟨i068, hi068, _, hsz68, _⟩ := info_parts info24
              have hroom68 : x5_2.length ≤ co67 := (Kd.S_reads' HO_5.out).2.1
              have hC68 : Kd.C (Kd.slice 9 Kd.string) _ (some ad357) x5_2.length x5_2 := (Kd.S_reads' HO_5.out).2.2
              have hcut68 := cut_from (P := Try.prog) 34 24 .i64 Try.underlying34 hi068 1 hsz68 (some ad357) x5_2.length co67 1 (by omega) q68
              have hr68 := Kd.C_drop (m := (1 : Int).toNat) (c := co67) hC68 (by omega) hroom68
              obtain ⟨A68, hA68⟩ : ∃ A1, A1 = (if co67 = (1 : Int).toNat then (some ad357) else ((some ad357) : Option Addr).map (·.add ((1 : Int).toNat * 1))) := ⟨_, rfl⟩
              obtain ⟨c68, hc68⟩ : ∃ c1, c1 = co67 - (1 : Int).toNat := ⟨_, rfl⟩
              have hy68 : y358.length = x5_2.length - (1 : Int).toNat := (by rw [Ny358.out, List.length_drop] <;> omega)
              rw [show (x5_2).drop (1 : Int).toNat = y358 from Ny358.out.symm] at hr68
              replace hr68 : Kd.C (Kd.slice 9 Kd.string) _ A68 y358.length y358 := (by rw [hA68]; exact hr68)
              rw [← hy68, ← hA68, ← hc68] at hcut68
              have HR361 := Aside0.mk hr68
              have HC361 := Aside0.mk (show y358.length ≤ c68 from by rw [hy68, hc68]; exact Nat.sub_le_sub_right hroom68 _)
              have KC68 := Aside0.mk hc68
              clear hr68 hC68 hroom68 hi068 hsz68 hc68
              have KY68 := Aside0.mk hy68
              have KA68 := Aside0.mk hA68
              clear hy68 hA68
              have KL68 := Aside0.mk (show 1 ≤ x5_2.length from by omega)
              replace q68 := eq_true q68
              have p365 : 0 ≤ (0 : Int) := (by omega)
              have q365 : 0 < (x5_2.length : Int) := of_decide_eq_true (by first | (with_reducible assumption) | assumption)
              obtain ⟨ad365, A365_0, c365_0, e365, hx365_0, hl365_0, hi365_0⟩ := at_L1 (Kd.S_reads' HO_5.out).2.2 0 p365 q365
              obtain rfl : ad357 = ad365 := (by injection e365)
              obtain ⟨ce365, hce365, hMe365, hcc365⟩ := Kd.S_get HO_5.out [] 0 p365 (by first | exact q365 | exact of_decide_eq_true (by first | (with_reducible assumption) | assumption) | (have e_ := (Kd.S_reads' HO_5.out).1; omega))
              obtain ⟨ve365_0, rfl, ge365_0⟩ := hMe365
              have hv365_0 := hcc365 0 _ rfl
              rw [Nat.add_zero, show ((Kd.slice 9 Kd.string)).sz = 1 from rfl, Nat.mul_one] at hv365_0
              replace hv365_0 := Option.some.inj (hv365_0.symm.trans hx365_0)
              rw [hv365_0] at ge365_0
              have HL365_0 := Aside0.mk (show Kd.R Kd.string 9 _ _ _ _ (rd_L1 x5_2 0) from ge365_0)
              clear hv365_0 ge365_0
              clear hcc365 hce365
              have qi365 : (0 < x5_2.length) = True := eq_true (by omega)
              (try rw [show ((0 : Int)).toNat = 0 from rfl] at hx365_0)
              (try rw [Addr.add_zero'] at hx365_0)
              have HR365_0 := Aside0.mk hi365_0
              have HC365_0 := Aside0.mk hl365_0
              clear hi365_0 hl365_0
              replace p365 := eq_true p365
              replace q365 := eq_true q365
              have ea_ := Option.some.inj (hx357_0.symm.trans hx365_0)
              injection ea_ with ea_ en_ ec_
              subst ea_
              subst ec_
              clear en_
              have q69 : (1 : Int) ≤ ((x5_2.length : Int) : Int) := of_decide_eq_true (by first | (with_reducible assumption) | assumption)
              obtain ⟨i069, hi069, _, hsz69, _⟩ := info_parts info24
              have hroom69 : x5_2.length ≤ co67 := (Kd.S_reads' HO_5.out).2.1
              have hC69 : Kd.C (Kd.slice 9 Kd.string) _ (some ad357) x5_2.length x5_2 := (Kd.S_reads' HO_5.out).2.2
              have hcut69 := cut_from (P := Try.prog) 34 24 .i64 Try.underlying34 hi069 1 hsz69 (some ad357) x5_2.length co67 1 (by omega) q69
              have hr69 := Kd.C_drop (m := (1 : Int).toNat) (c := co67) hC69 (by omega) hroom69
              obtain ⟨A69, hA69⟩ : ∃ A1, A1 = (if co67 = (1 : Int).toNat then (some ad357) else ((some ad357) : Option Addr).map (·.add ((1 : Int).toNat * 1))) := ⟨_, rfl⟩
              obtain ⟨c69, hc69⟩ : ∃ c1, c1 = co67 - (1 : Int).toNat := ⟨_, rfl⟩
              have hy69 : y366.length = x5_2.length - (1 : Int).toNat := (by rw [Ny366.out, List.length_drop] <;> omega)
              rw [show (x5_2).drop (1 : Int).toNat = y366 from Ny366.out.symm] at hr69
              replace hr69 : Kd.C (Kd.slice 9 Kd.string) _ A69 y366.length y366 := (by rw [hA69]; exact hr69)
              rw [← hy69, ← hA69, ← hc69] at hcut69
              have HR369 := Aside0.mk hr69
              have HC369 := Aside0.mk (show y366.length ≤ c69 from by rw [hy69, hc69]; exact Nat.sub_le_sub_right hroom69 _)
              have KC69 := Aside0.mk hc69
              clear hr69 hC69 hroom69 hi069 hsz69 hc69
              have KY69 := Aside0.mk hy69
              have KA69 := Aside0.mk hA69
              clear hy69 hA69
              have KL69 := Aside0.mk (show 1 ≤ x5_2.length from by omega)
              replace q69 := eq_true q69
              have ey8_ : y358 = y366 := Ny358.out.trans Ny366.out.symm
              subst ey8_
              have eA8_ : A68 = A69 := KA68.out.trans KA69.out.symm
              subst eA8_
              have ec8_ : c68 = c69 := KC68.out.trans KC69.out.symm
              subst ec8_
              refine start_ (n := 22) (S := fun w' => w'.cell? ad357 = some (.slice A357_0 (rd_L1 x5_2 0).length c357_0) ∧ w'.cell? ad357 = some (.slice A357_0 (rd_L1 x5_2 0).length c357_0)) (ds := []) (ml_ 22 0) (by kernel_rfl) rfl rfl ⟨hx357_0, hx365_0⟩ (fun hHeld => ?_); refine with_tabW caravanlaw9_SetsAll.tab14 caravanlaw9_SetsAll.bits14 (fun HT_ HW_ => ?_)
              generalize wc.drew = w66 at HO_5 HB HL357_0 HL365_0 HR357_0 HR361 HR365_0 HR369 hx357_0 hx365_0 hHeld ⊢
              refine pA_ 0 76 (ml_ 22 1) rfl rfl HT_.out ?_
              refine pA_ 1 77 (ml_ 22 3) rfl rfl HT_.out ?_
              refine pA_ 2 78 (ml_ 22 7) rfl rfl HT_.out ?_
              refine pA_ 3 79 (ml_ 22 15) rfl rfl HT_.out ?_
              refine pA_ 4 80 (ml_ 22 31) rfl rfl HT_.out ?_
              refine pA_ 5 81 (ml_ 22 63) rfl rfl HT_.out ?_
              refine pA_ 7 83 (ml_ 22 191) rfl rfl HT_.out ?_
              refine pA_ 8 84 (ml_ 22 447) rfl rfl HT_.out ?_
              refine pA_ 10 86 (ml_ 22 1471) rfl rfl HT_.out ?_
              refine pA_ 11 87 (ml_ 22 3519) rfl rfl HT_.out ?_
              refine pA_ 13 89 (ml_ 22 11711) rfl rfl HT_.out ?_
              refine pA_ 14 90 (ml_ 22 28095) rfl rfl HT_.out ?_
              refine t2_ 6 82 (ml_ 22 28159) rfl rfl HT_.out HW_.out hHeld ?_
              refine t2_ 12 88 (ml_ 22 32255) rfl rfl HT_.out HW_.out hHeld ?_
              refine one_ (i := 9) (N := some 85) (ml_ 22 32767) rfl rfl (one_of HT_.out (by kernel_rfl)) (by decide) (fun K hK => ?_)
              refine goes_ Try.func12 (by kernel_rfl) rfl #[.slice A357_0 (rd_L1 x5_2 0).length c357_0, .slice A68 y358.length c68] (by rfl) rfl rfl qM_ ?_
              with_reducible refine (sets_Minus.calls _ _ (rd_L1 x5_2 0) _ _ y358 t362 _ ?side1 ?side2 ?side3 ?side4 A60.out).mono ?_
              (case side1 => repeat (first | exact (q3f7a_ HR357_0.out) | (with_reducible refine Kd.C_alloc ?_ _) | (with_reducible refine Kd.C_drewN ?_ _) | (with_reducible refine Kd.C_drew ?_)))
              (case side2 => exact HC357_0.out)
              (case side3 => repeat (first | exact (q3f7a_ HR361.out) | (with_reducible refine Kd.C_alloc ?_ _) | (with_reducible refine Kd.C_drewN ?_ _) | (with_reducible refine Kd.C_drew ?_)))
              (case side4 => exact HC361.out)
              rintro e w70 ⟨v363, rfl, ho0, hb⟩
              have HS0_ := (hb.cell (World.block_lt_of_cell? _ _ (hHeld.1))).trans (hHeld.1)
              have HS1_ := (hb.cell (World.block_lt_of_cell? _ _ (hHeld.2))).trans (hHeld.2)
              refine ⟨_, rfl, ?_⟩
              have n0_ := Aside0.mk (Kd.S_below (qf630_ HO_5.out) hb)
              have n1_ := Aside0.mk (Kd.R_below (q8524_ HL357_0.out) hb)
              have n2_ := Aside0.mk (Kd.R_below (q8524_ HL365_0.out) hb)
              have n3_ := Aside0.mk (Kd.V_lower (Kd.V_mono (ok' := fun k_ => some k_ ≠ (.slice (some ad357) x5_2.length co67 : Value).ownBlock) ho0 (fun k_ hk_ => (Kd.fresh' (Kd.S_lt (qf630_ HO_5.out)) k_ hk_))) (below_size (qdb35_ HB.out)))
              have n4_ := Aside0.mk (Kd.C_below (q3f7a_ HR357_0.out) hb)
              have n5_ := Aside0.mk (Kd.C_below (q3f7a_ HR361.out) hb)
              have n6_ := Aside0.mk (Kd.C_below (q3f7a_ HR365_0.out) hb)
              have n7_ := Aside0.mk (Kd.C_below (q3f7a_ HR369.out) hb)
              have n8_ := Aside0.mk (below_step (qdb35_ HB.out) hb)
              clear HO_5
              clear HL357_0
              clear HL365_0
              clear HR357_0
              clear HR361
              clear HR365_0
              clear HR369
              clear HB
              have HO_5 := n0_
              have HL357_0 := n1_
              have HL365_0 := n2_
              have HO364 := n3_
              have HR357_0 := n4_
              have HR361 := n5_
              have HR365_0 := n6_
              have HR369 := n7_
              have HB := n8_
              clear n0_ n1_ n2_ n3_ n4_ n5_ n6_ n7_ n8_
              (try clear hb)
              (try clear hb2)
              (try clear hk)
              (try clear hi)
              (try clear ho0)
              refine hK.out _ _ ⟨HS0_, HS1_⟩ (fun hHeld => ?_)
              clear hK K
              refine nA_ 85 ?_
              refine one_ (i := 15) (N := some 91) (ml_ 22 65535) rfl rfl (one_of HT_.out (by kernel_rfl)) (by decide) (fun K hK => ?_)
              refine goes_ Try.func20 (by kernel_rfl) rfl #[.slice A357_0 (rd_L1 x5_2 0).length c357_0, .slice A68 y358.length c68] (by rfl) rfl rfl qM_ ?_
              with_reducible refine (caravanref5_SMinus.calls kj29 _ _ (rd_L1 x5_2 0) _ _ y358 t370 _ ?side1 ?side2 ?side3 ?side4 A62.out).mono ?_
              (case side1 => repeat (first | exact (q3f7a_ HR365_0.out) | (with_reducible refine Kd.C_alloc ?_ _) | (with_reducible refine Kd.C_drewN ?_ _) | (with_reducible refine Kd.C_drew ?_)))
              (case side2 => exact HC365_0.out)
              (case side3 => repeat (first | exact (q3f7a_ HR369.out) | (with_reducible refine Kd.C_alloc ?_ _) | (with_reducible refine Kd.C_drewN ?_ _) | (with_reducible refine Kd.C_drew ?_)))
              (case side4 => exact HC369.out)
              rintro e w71 ⟨v371, rfl, ho0, hb⟩
              have HS0_ := (hb.cell (World.block_lt_of_cell? _ _ (hHeld.1))).trans (hHeld.1)
              have HS1_ := (hb.cell (World.block_lt_of_cell? _ _ (hHeld.2))).trans (hHeld.2)
              refine ⟨_, rfl, ?_⟩
              have n0_ := Aside0.mk (Kd.S_elder' (qf630_ HO_5.out) (Kd.R_base ho0) hb)
              have n1_ := Aside0.mk (Kd.R_elder' (q8524_ HL357_0.out) (Kd.R_base ho0) hb)
              have n2_ := Aside0.mk (Kd.R_elder' (q8524_ HL365_0.out) (Kd.R_base ho0) hb)
              have n3_ := Aside0.mk (Kd.V_elder' (q4d18_ HO364.out) (Kd.R_base ho0) hb)
              have n4_ := Aside0.mk (Kd.R_lower (Kd.R_new' (Kd.R_new' ho0 (Kd.R_lt (q8524_ HL357_0.out))) (Kd.R_lt (q8524_ HL365_0.out))) (below_size (qdb35_ HB.out)))
              have n5_ := Aside0.mk (Kd.C_below (q3f7a_ HR357_0.out) hb)
              have n6_ := Aside0.mk (Kd.C_below (q3f7a_ HR361.out) hb)
              have n7_ := Aside0.mk (Kd.C_below (q3f7a_ HR365_0.out) hb)
              have n8_ := Aside0.mk (Kd.C_below (q3f7a_ HR369.out) hb)
              have n9_ := Aside0.mk (below_step (qdb35_ HB.out) hb)
              clear HO_5
              clear HL357_0
              clear HL365_0
              clear HO364
              clear HR357_0
              clear HR361
              clear HR365_0
              clear HR369
              clear HB
              have HO_5 := n0_
              have HL357_0 := n1_
              have HL365_0 := n2_
              have HO364 := n3_
              have HO372 := n4_
              have HR357_0 := n5_
              have HR361 := n6_
              have HR365_0 := n7_
              have HR369 := n8_
              have HB := n9_
              clear n0_ n1_ n2_ n3_ n4_ n5_ n6_ n7_ n8_ n9_
              (try clear hb)
              (try clear hb2)
              (try clear hk)
              (try clear hi)
              (try clear ho0)
              obtain ⟨Ao72, co72, eo72⟩ := Kd.V_slice HO364.out
              (first | subst eo72 | (injection eo72 with f1_ f2_ f3_; have f4_ := f1_.symm; have f5_ := f3_.symm; clear f1_ f2_ f3_; subst f4_; subst f5_))
              obtain ⟨Ao73, co73, eo73⟩ := Kd.R_slice HO372.out
              (first | subst eo73 | (injection eo73 with f1_ f2_ f3_; have f4_ := f1_.symm; have f5_ := f3_.symm; clear f1_ f2_ f3_; subst f4_; subst f5_))
              refine hK.out _ _ ⟨HS0_, HS1_⟩ (fun hHeld => ?_)
              clear hK K
              refine nA_ 91 ?_
              refine one_ (i := 16) (N := some 92) (ml_ 22 131071) rfl rfl (one_of HT_.out (by kernel_rfl)) (by decide) (fun K hK => ?_)
              refine goes_ Try.func9 (by kernel_rfl) rfl #[.slice Ao72 t362.length co72, .slice Ao73 t370.length co73] (by rfl) rfl rfl qM_ ?_
              with_reducible refine (caravanref1_Texts.calls kj29 _ _ t362 _ _ t370 true _ ?side1 ?side2 ?side3 ?side4 A63.out).mono ?_
              (case side1 => exact qC_ ((Kd.V_reads' HO364.out).2.2))
              (case side2 => exact (Kd.V_reads' HO364.out).2.1)
              (case side3 => exact qC_ ((Kd.R_reads' HO372.out).2.2))
              (case side4 => exact (Kd.R_reads' HO372.out).2.1)
              rintro e w' ⟨rfl, ⟨nd, rfl⟩⟩
              refine ⟨_, rfl, ?_⟩
              refine hK.out _ _ ⟨hHeld.1, hHeld.2⟩ (fun hHeld => ?_)
              clear hK K
              refine nA_ 92 ?_
              refine pA_ 17 93 (ml_ 22 262143) rfl rfl HT_.out ?_
              refine pA_ 18 94 (ml_ 22 524287) rfl rfl HT_.out ?_
              refine one_ (i := 19) (N := some 95) (ml_ 22 1048575) rfl rfl (one_of HT_.out (by kernel_rfl)) (by decide) (fun K hK => ?_)
              refine goes_ Try.func7 (by kernel_rfl) rfl #[] (by rfl) rfl rfl qM_ ?_
              with_reducible refine (caravanlaw9_awake.calls  t374 _ A65.out).mono ?_
              rintro e w74 ⟨rfl, hb⟩
              have HS0_ := (hb.cell (World.block_lt_of_cell? _ _ (hHeld.1))).trans (hHeld.1)
              have HS1_ := (hb.cell (World.block_lt_of_cell? _ _ (hHeld.2))).trans (hHeld.2)
              refine ⟨_, rfl, ?_⟩
              have n0_ := Aside0.mk (Kd.S_below (qf630_ HO_5.out) hb)
              have n1_ := Aside0.mk (Kd.R_below (q8524_ HL357_0.out) hb)
              have n2_ := Aside0.mk (Kd.R_below (q8524_ HL365_0.out) hb)
              have n3_ := Aside0.mk (Kd.V_below (q4d18_ HO364.out) hb)
              have n4_ := Aside0.mk (Kd.R_below (q8524_ HO372.out) hb)
              have n5_ := Aside0.mk (Kd.C_below (q3f7a_ HR357_0.out) hb)
              have n6_ := Aside0.mk (Kd.C_below (q3f7a_ HR361.out) hb)
              have n7_ := Aside0.mk (Kd.C_below (q3f7a_ HR365_0.out) hb)
              have n8_ := Aside0.mk (Kd.C_below (q3f7a_ HR369.out) hb)
              have n9_ := Aside0.mk (below_step (qdb35_ HB.out) hb)
              clear HO_5
              clear HL357_0
              clear HL365_0
              clear HO364
              clear HO372
              clear HR357_0
              clear HR361
              clear HR365_0
              clear HR369
              clear HB
              have HO_5 := n0_
              have HL357_0 := n1_
              have HL365_0 := n2_
              have HO364 := n3_
              have HO372 := n4_
              have HR357_0 := n5_
              have HR361 := n6_
              have HR365_0 := n7_
              have HR369 := n8_
              have HB := n9_
              clear n0_ n1_ n2_ n3_ n4_ n5_ n6_ n7_ n8_ n9_
              (try clear hb)
              (try clear hb2)
              (try clear hk)
              (try clear hi)
              refine hK.out _ _ ⟨HS0_, HS1_⟩ (fun hHeld => ?_)
              clear hK K
              refine nA_ 95 ?_
              refine pA_ 20 96 (ml_ 22 2097151) rfl rfl HT_.out ?_
              refine pA_ 21 4 (ml_ 22 4194303) rfl rfl HT_.out ?_
              refine done_ (done_of HT_.out (by kernel_rfl)) ?_
              try go_wp2
              go_ret
              exact ⟨by first | rfl | (simp [errW_none, errW_some] <;> rfl) | (simp [*, errW_none, errW_some] <;> rfl), (qdb35_ HB.out)⟩
             ·replace c64 := Bool.eq_false_iff.mpr c64
              subst c64
              have H1 : (some false) = some r := by rw [if_neg (show ¬ (false = true) by decide)] at H; exact H
              clear H
              have H := H1
              clear H1
              subst hrt_; exact absurd H (by simp)
            ·rw [if_neg c59] at H
             exact absurd H (by simp)
           ·rw [if_neg c58] at H
            exact absurd H (by simp)

end Go.Proofs.Ytelgfangaigncaa.G
