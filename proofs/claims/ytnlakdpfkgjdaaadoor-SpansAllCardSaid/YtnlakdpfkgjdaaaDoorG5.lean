/- What functions of the translation come to, and their calls' proofs; by a program of mine over the kit's print, with contracts given by hand beside. Conditions: where a plain function tells none, nothing is said. -/
import Derived.Test.YtnlakdpfkgjdaaaDoorG0
import Derived.Test.YtnlakdpfkgjdaaaDoorG2
import Derived.Test.YtnlakdpfkgjdaaaDoorG4
namespace Go.Proofs.YtnlakdpfkgjdaaaDoor.G
open Go.RowKit Go.Proofs.YtnlakdpfkgjdaaaDoorW.PrintWords Go.Proofs.YtnlakdpfkgjdaaaDoorW.PrintLast Go.Proofs.YtnlakdpfkgjdaaaDoorW.PrintMore
attribute [local go_sem] max2_int min2_int max_two min_two max_three min_three max_four min_four   -- for this text's walks alone
set_option linter.unusedVariables false
set_option linter.unusedSimpArgs false

/-! ### caravanref1_Mix: function 25 -/
mutual
def caravanref1_Mix.l0 : Nat → Int → List (S31) → List (S31) → List Int → List (S31) → Int → Option ((List (S31)))
 | 0, _, _, _, _, _, _ => none
 | k + 1, x0, x1, x2, x7, x8, x9 => if (wrap64 (x9 + 1)) < (x7.length : Int) then (if 0 ≤ x9 then (if x9 < (x7.length : Int) then ((caravanref1_Has.f k x1 (rd x7 x9)).bind fun t228 => ((caravanref1_Has.f k x2 (rd x7 x9)).bind fun t230 => (if t228 = true then (caravanref1_Mix.j1 k x0 x1 x2 x7 x8 x9 t228 t230 true) else (caravanref1_Mix.j1 k x0 x1 x2 x7 x8 x9 t228 t230 t230)))) else (none)) else (none)) else (some x8)
def caravanref1_Mix.j1 : Nat → Int → List (S31) → List (S31) → List Int → List (S31) → Int → Bool → Bool → Bool → Option ((List (S31)))
 | 0, _, _, _, _, _, _, _, _, _ => none
 | k + 1, x0, x1, x2, x7, x8, x9, x10, x11, x12 => if x0 = 1 then (if x10 = true then (caravanref1_Mix.j2 k x0 x1 x2 x7 x8 x9 (!x11)) else (caravanref1_Mix.j2 k x0 x1 x2 x7 x8 x9 false)) else (if x0 = 2 then (if x10 = true then (caravanref1_Mix.j2 k x0 x1 x2 x7 x8 x9 x11) else (caravanref1_Mix.j2 k x0 x1 x2 x7 x8 x9 false)) else (caravanref1_Mix.j2 k x0 x1 x2 x7 x8 x9 x12))
def caravanref1_Mix.j2 : Nat → Int → List (S31) → List (S31) → List Int → List (S31) → Int → Bool → Option ((List (S31)))
 | 0, _, _, _, _, _, _, _ => none
 | k + 1, x0, x1, x2, x7, x8, x9, x12 => if x12 = true then (if (x8.length : Int) > 0 then (if 0 ≤ (wrap64 ((x8.length : Int) - 1)) then (if (wrap64 ((x8.length : Int) - 1)) < (x8.length : Int) then (if 0 ≤ x9 then (if x9 < (x7.length : Int) then (if ((rd_T31 x8 (wrap64 ((x8.length : Int) - 1))).f1) = (wrap64 ((rd x7 x9) - 1)) then (if 0 ≤ (wrap64 (x9 + 1)) then (if (wrap64 (x9 + 1)) < (x7.length : Int) then (caravanref1_Mix.l0 k x0 x1 x2 x7 (x8.set ((wrap64 ((x8.length : Int) - 1)) : Int).toNat (⟨(rd_T31 x8 (wrap64 ((x8.length : Int) - 1))).f0, wrap64 ((rd x7 (wrap64 (x9 + 1))) - 1)⟩ : S31)) (wrap64 (x9 + 1))) else (none)) else (none)) else (if 0 ≤ (wrap64 (x9 + 1)) then (if (wrap64 (x9 + 1)) < (x7.length : Int) then (if x8.length < 8796093022208 then (caravanref1_Mix.l0 k x0 x1 x2 x7 (x8 ++ [(⟨rd x7 x9, wrap64 ((rd x7 (wrap64 (x9 + 1))) - 1)⟩ : S31)]) (wrap64 (x9 + 1))) else (none)) else (none)) else (none))) else (none)) else (none)) else (none)) else (none)) else (if 0 ≤ x9 then (if x9 < (x7.length : Int) then (if 0 ≤ (wrap64 (x9 + 1)) then (if (wrap64 (x9 + 1)) < (x7.length : Int) then (if x8.length < 8796093022208 then (caravanref1_Mix.l0 k x0 x1 x2 x7 (x8 ++ [(⟨rd x7 x9, wrap64 ((rd x7 (wrap64 (x9 + 1))) - 1)⟩ : S31)]) (wrap64 (x9 + 1))) else (none)) else (none)) else (none)) else (none)) else (none))) else (caravanref1_Mix.l0 k x0 x1 x2 x7 x8 (wrap64 (x9 + 1)))
end
def caravanref1_Mix.f (k : Nat) (a0 : Int) (l1 : List (S31)) (l2 : List (S31)) : Option ((List (S31))) := (caravanref1_marks.f k l1 l2).bind fun t224 => (caravanref1_Mix.l0 k a0 l1 l2 t224 ([] : List (S31)) 0)
theorem caravanref1_Mix.mono_l : ∀ k, (∀ y0 y1 y2 y3 y4 y5, LeO (caravanref1_Mix.l0 k y0 y1 y2 y3 y4 y5) (caravanref1_Mix.l0 (k + 1) y0 y1 y2 y3 y4 y5)) ∧ (∀ y0 y1 y2 y3 y4 y5 y6 y7 y8, LeO (caravanref1_Mix.j1 k y0 y1 y2 y3 y4 y5 y6 y7 y8) (caravanref1_Mix.j1 (k + 1) y0 y1 y2 y3 y4 y5 y6 y7 y8)) ∧ (∀ y0 y1 y2 y3 y4 y5 y6, LeO (caravanref1_Mix.j2 k y0 y1 y2 y3 y4 y5 y6) (caravanref1_Mix.j2 (k + 1) y0 y1 y2 y3 y4 y5 y6))
 | 0 => ⟨fun _ _ _ _ _ _ r h => by simp [caravanref1_Mix.l0] at h, fun _ _ _ _ _ _ _ _ _ r h => by simp [caravanref1_Mix.j1] at h, fun _ _ _ _ _ _ _ r h => by simp [caravanref1_Mix.j2] at h⟩
 | k + 1 => by
  obtain ⟨ih0, ih1, ih2⟩ := caravanref1_Mix.mono_l k
  refine ⟨?_, ?_, ?_⟩
  ·intro y0 y1 y2 y3 y4 y5
   unfold caravanref1_Mix.l0
   repeat' first
   | (with_reducible exact ih0 _ _ _ _ _ _)
   | (with_reducible exact ih1 _ _ _ _ _ _ _ _ _)
   | (with_reducible exact ih2 _ _ _ _ _ _ _)
   | (with_reducible exact caravanref1_Has.mono _ _ _)
   | (with_reducible exact caravanref1_marks.mono _ _ _)
   | (with_reducible exact LeO.refl _)
   | (with_reducible exact LeO.none _)
   | (with_reducible refine LeO.ite ?_ ?_)
   | (with_reducible refine LeO.bind ?_ (fun _ => ?_))
   | exact ih0 _ _ _ _ _ _
   | exact ih1 _ _ _ _ _ _ _ _ _
   | exact ih2 _ _ _ _ _ _ _
   | exact caravanref1_Has.mono _ _ _
   | exact caravanref1_marks.mono _ _ _
   | exact LeO.none _
   | refine LeO.ite ?_ ?_
   | refine LeO.bind ?_ (fun _ => ?_)
  ·intro y0 y1 y2 y3 y4 y5 y6 y7 y8
   unfold caravanref1_Mix.j1
   repeat' first
   | (with_reducible exact ih0 _ _ _ _ _ _)
   | (with_reducible exact ih1 _ _ _ _ _ _ _ _ _)
   | (with_reducible exact ih2 _ _ _ _ _ _ _)
   | (with_reducible exact caravanref1_Has.mono _ _ _)
   | (with_reducible exact caravanref1_marks.mono _ _ _)
   | (with_reducible exact LeO.refl _)
   | (with_reducible exact LeO.none _)
   | (with_reducible refine LeO.ite ?_ ?_)
   | (with_reducible refine LeO.bind ?_ (fun _ => ?_))
   | exact ih0 _ _ _ _ _ _
   | exact ih1 _ _ _ _ _ _ _ _ _
   | exact ih2 _ _ _ _ _ _ _
   | exact caravanref1_Has.mono _ _ _
   | exact caravanref1_marks.mono _ _ _
   | exact LeO.none _
   | refine LeO.ite ?_ ?_
   | refine LeO.bind ?_ (fun _ => ?_)
  ·intro y0 y1 y2 y3 y4 y5 y6
   unfold caravanref1_Mix.j2
   repeat' first
   | (with_reducible exact ih0 _ _ _ _ _ _)
   | (with_reducible exact ih1 _ _ _ _ _ _ _ _ _)
   | (with_reducible exact ih2 _ _ _ _ _ _ _)
   | (with_reducible exact caravanref1_Has.mono _ _ _)
   | (with_reducible exact caravanref1_marks.mono _ _ _)
   | (with_reducible exact LeO.refl _)
   | (with_reducible exact LeO.none _)
   | (with_reducible refine LeO.ite ?_ ?_)
   | (with_reducible refine LeO.bind ?_ (fun _ => ?_))
   | exact ih0 _ _ _ _ _ _
   | exact ih1 _ _ _ _ _ _ _ _ _
   | exact ih2 _ _ _ _ _ _ _
   | exact caravanref1_Has.mono _ _ _
   | exact caravanref1_marks.mono _ _ _
   | exact LeO.none _
   | refine LeO.ite ?_ ?_
   | refine LeO.bind ?_ (fun _ => ?_)
theorem caravanref1_Mix.mono : ∀ a0 a1 a2 k, LeO (caravanref1_Mix.f k a0 a1 a2) (caravanref1_Mix.f (k + 1) a0 a1 a2) := by
 intro a0 a1 a2 k
 obtain ⟨ih0, ih1, ih2⟩ := caravanref1_Mix.mono_l k
 unfold caravanref1_Mix.f
 repeat' first
  | (with_reducible exact ih0 _ _ _ _ _ _)
  | (with_reducible exact ih1 _ _ _ _ _ _ _ _ _)
  | (with_reducible exact ih2 _ _ _ _ _ _ _)
  | (with_reducible exact caravanref1_Has.mono _ _ _)
  | (with_reducible exact caravanref1_marks.mono _ _ _)
  | (with_reducible exact LeO.refl _)
  | (with_reducible exact LeO.none _)
  | (with_reducible refine LeO.ite ?_ ?_)
  | (with_reducible refine LeO.bind ?_ (fun _ => ?_))
  | exact ih0 _ _ _ _ _ _
  | exact ih1 _ _ _ _ _ _ _ _ _
  | exact ih2 _ _ _ _ _ _ _
  | exact caravanref1_Has.mono _ _ _
  | exact caravanref1_marks.mono _ _ _
  | exact LeO.none _
  | refine LeO.ite ?_ ?_
  | refine LeO.bind ?_ (fun _ => ?_)
def caravanref1_Mix.T6 : Bool × List (List Nat × List Nat) := (true, [([], []), ([], []), ([], []), ([1, 2], [1, 2]), ([3], [3]), ([0, 4], [0, 4]), ([], []), ([], []), ([], []), ([7, 8], [7, 8]), ([9], [9]), ([6, 10, 5], [6, 10]), ([5, 11, 0, 1, 2, 3, 4, 5], [5]), ([11, 12, 0, 1, 2, 3, 4, 5, 6, 7, 8, 9, 10, 11, 12], [11])])
def caravanref1_Mix.B6 : List Nat := [0, 0, 0, 6, 14, 31, 0, 0, 0, 384, 896, 2047, 4095, 8191]
theorem caravanref1_Mix.tab6 : rtab .any (opsOf Tryd.f25 6) = caravanref1_Mix.T6 := by kernel_rfl
theorem caravanref1_Mix.bits6 : waitsOk caravanref1_Mix.T6.2 caravanref1_Mix.B6 = true := by kernel_rfl
def caravanref1_Mix.T13 : Bool × List (List Nat × List Nat) := (true, [([], []), ([], []), ([], []), ([1, 2], [1, 2]), ([3], [3]), ([], []), ([], []), ([6], [6]), ([5, 7], [5, 7]), ([8], [8]), ([9], [9]), ([4, 10], [4, 10]), ([11], [11]), ([0, 12], [0, 12]), ([13, 13, 0, 1, 2, 3, 4, 5, 6, 7, 8, 9, 10, 11, 12, 13], [0, 13])])
def caravanref1_Mix.B13 : List Nat := [0, 0, 0, 6, 14, 0, 0, 64, 224, 480, 992, 2046, 4094, 8191, 16383]
theorem caravanref1_Mix.tab13 : rtab .any (opsOf Tryd.f25 13) = caravanref1_Mix.T13 := by kernel_rfl
theorem caravanref1_Mix.bits13 : waitsOk caravanref1_Mix.T13.2 caravanref1_Mix.B13 = true := by kernel_rfl
def caravanref1_Mix.T15 : Bool × List (List Nat × List Nat) := (true, [([], []), ([0], [0]), ([1], [1]), ([2], [2]), ([3], [3]), ([3], [3]), ([5, 3], [3, 5]), ([6, 3], [3, 6]), ([4, 7, 3], [3, 4, 7]), ([8, 3], [3, 8]), ([9, 3], [3, 9]), ([3], [3]), ([3], [3]), ([11, 12, 3], [3, 11, 12]), ([13, 3], [3, 13]), ([14, 3], [3, 14]), ([10, 15, 3], [3, 10, 15]), ([3, 16], [3, 16]), ([17, 3], [17])])
def caravanref1_Mix.B15 : List Nat := [0, 1, 3, 7, 15, 15, 47, 111, 255, 511, 1023, 15, 15, 6159, 14351, 30735, 65535, 131071, 262143]
theorem caravanref1_Mix.tab15 : rtab .any (opsOf Tryd.f25 15) = caravanref1_Mix.T15 := by kernel_rfl
theorem caravanref1_Mix.bits15 : waitsOk caravanref1_Mix.T15.2 caravanref1_Mix.B15 = true := by kernel_rfl
set_option maxHeartbeats 8000000 in
set_option maxRecDepth 100000 in
theorem caravanref1_Mix.calls (k : Nat) (a0 : Int) (A1 : Option Addr) (c1 : Nat) (l1 : List (S31)) (A2 : Option Addr) (c2 : Nat) (l2 : List (S31)) (r : List (S31)) (w : World) (hr1 : Kd.C k31 w A1 l1.length l1) (hc1 : l1.length ≤ c1) (hr2 : Kd.C k31 w A2 l2.length l2) (hc2 : l2.length ≤ c2) (h : caravanref1_Mix.f k a0 l1 l2 = some r) :
 Calls Tryd.prog 25 #[.int .i64 a0, .slice A1 l1.length c1, .slice A2 l2.length c2] w fun e w' => ∃ v0_ : Value, e = .returned (v0_) ∧ Kd.R k31 31 w' w.heap.size (fun _ => True) v0_ r ∧ Below w.heap.size w w' := by
 have hu31 := Tryd.underlying31
 have HR1 := Aside0.mk hr1
 have HC1 := Aside0.mk hc1
 clear hr1 hc1
 have HR2 := Aside0.mk hr2
 have HC2 := Aside0.mk hc2
 clear hr2 hc2
 have HB := Aside0.mk (Below.refl w.heap.size w)
 have H : ((caravanref1_marks.f k l1 l2).bind fun t224 => (caravanref1_Mix.l0 k a0 l1 l2 t224 ([] : List (S31)) 0)) = some r := h
 clear h
 replace H := Option.bind_eq_some_iff.mp H
 obtain ⟨t224, A40, H⟩ := H
 replace H : (caravanref1_Mix.l0 k a0 l1 l2 t224 ([] : List (S31)) 0) = some r := H
 have A4 := Aside0.mk A40
 clear A40
 have H' := Aside0.mk H
 clear H
 go_enter Tryd.func25, Tryd.ntmps25
 go_wp2_with (first | ((with_reducible refine gate_callee (f := 38) rfl ?_); refine goesL_ (some 15) rfl rfl Tryd.func38 (by kernel_rfl) rfl #[.slice A1 l1.length c1, .slice A2 l2.length c2] rfl qM_ ?_; (with_reducible refine (caravanref1_marks.calls k _ _ l1 _ _ l2 t224 _ ?side1 ?side2 ?side3 ?side4 A4.out).mono ?_); (case side1 => exact qC_ (HR1.out)); (case side2 => exact HC1.out); (case side3 => exact qC_ (HR2.out)); (case side4 => exact HC2.out); rintro e w5 ⟨v225, rfl, ho0, hb⟩; refine ⟨_, rfl, ?_⟩; have n0_ := Aside0.mk (Kd.R_lower ho0 (below_size (qdb35_ HB.out))); have n1_ := Aside0.mk (below_step (qdb35_ HB.out) hb); clear HB; have HO226 := n0_; have HB := n1_; clear n0_ n1_; (try clear hb); (try clear hb2); (try clear hk); (try clear hi); (try clear ho0)))
 go_loopg [8, 9] k (fun kq v8 v9 w' => ∃ (x8_1 : List (S31)) (x9_1 : Int), v9 = .int .i64 x9_1 ∧ Aside0 (caravanref1_Mix.l0 kq a0 l1 l2 t224 x8_1 x9_1 = some r) ∧ Aside0 (kq ≤ k) ∧ Aside0 (Kd.R (Kd.int .i64) 3 w' w.heap.size (fun _ => True) v225 t224) ∧ Aside0 (Kd.R k31 31 w' w.heap.size (fun _ => True) v8 x8_1) ∧ Aside0 (Below w.heap.size w w'))
 case atStart => exact ⟨(([] : List (S31))), (0), (by first | rfl | (simp; done) | (simp [*]; done)), H', ⟨Nat.le_refl _⟩, ⟨by (with_reducible repeat (first | apply Kd.R_alloc | apply Kd.R_drewN | apply Kd.R_drew)); exact HO226.out⟩, ⟨by first | exact Kd.R_nil _ _ _ _ _ | exact Kd.N_nil _ _ _ _ _ | exact Kd.V_nil _ _ _ _ _ | exact Kd.Q_nil _ _ _ _ _ | exact Kd.S_nil _ _ _ _ _⟩, ⟨(qdb35_ HB.out)⟩⟩
 case round =>
  clear H'
  try clear c1
  try clear c2
  try clear p2
  try clear c3
  obtain ⟨x8_1, x9_1, rfl, HA, HK1, HO_7, HO_8, HB⟩ := hrel
  cases gk with
  | zero => exact absurd HA.out (by simp [caravanref1_Mix.l0])
  | succ k1 =>
   have H := HA.out
   clear HA
   simp only [caravanref1_Mix.l0] at H
   by_cases c6 : (wrap64 (x9_1 + 1)) < (t224.length : Int)
   ·rw [if_pos c6] at H
    have c6b0 : decide ((wrap64 (x9_1 + 1)) < (t224.length : Int)) = true := decide_eq_true c6
    clear c6
    by_cases c7 : 0 ≤ x9_1
    ·rw [if_pos c7] at H
     have c7b0 : decide (0 ≤ x9_1) = true := decide_eq_true c7
     clear c7
     by_cases c8 : x9_1 < (t224.length : Int)
     ·rw [if_pos c8] at H
      have c8b0 : decide (x9_1 < (t224.length : Int)) = true := decide_eq_true c8
      clear c8
      replace H := Option.bind_eq_some_iff.mp H
      obtain ⟨t228, A90, H⟩ := H
      replace H : ((caravanref1_Has.f k1 l2 (rd t224 x9_1)).bind fun t230 => (if t228 = true then (caravanref1_Mix.j1 k1 a0 l1 l2 t224 x8_1 x9_1 t228 t230 true) else (caravanref1_Mix.j1 k1 a0 l1 l2 t224 x8_1 x9_1 t228 t230 t230))) = some r := H
      have A9 := Aside0.mk A90
      clear A90
      replace H := Option.bind_eq_some_iff.mp H
      obtain ⟨t230, A100, H⟩ := H
      replace H : (if t228 = true then (caravanref1_Mix.j1 k1 a0 l1 l2 t224 x8_1 x9_1 t228 t230 true) else (caravanref1_Mix.j1 k1 a0 l1 l2 t224 x8_1 x9_1 t228 t230 t230)) = some r := H
      have A10 := Aside0.mk A100
      clear A100
      have HC11 := Aside0.mk H
      clear H
      obtain ⟨Ao12, co12, eo12⟩ := Kd.R_slice HO_7.out
      subst eo12
      try go_wp2
      have n0_ := Aside0.mk (Kd.R_drew HO_7.out)
      have n1_ := Aside0.mk (Kd.R_drew HO_8.out)
      have n2_ := Aside0.mk (below_drew1 HB.out)
      clear HO_7
      clear HO_8
      clear HB
      have HO_7 := n0_
      have HO_8 := n1_
      have HB := n2_
      clear n0_ n1_ n2_
      have p227 : 0 ≤ (x9_1 : Int) := of_decide_eq_true (by first | (with_reducible assumption) | assumption)
      have q227 : x9_1 < (t224.length : Int) := of_decide_eq_true (by first | (with_reducible assumption) | assumption)
      obtain ⟨ad227, e227, hx227_0⟩ := Kd.at_int (Kd.R_reads' HO_7.out).2.2 x9_1 p227 q227
      cases e227
      replace p227 := eq_true p227
      replace q227 := eq_true q227
      have p229 : 0 ≤ (x9_1 : Int) := of_decide_eq_true (by first | (with_reducible assumption) | assumption)
      have q229 : x9_1 < (t224.length : Int) := of_decide_eq_true (by first | (with_reducible assumption) | assumption)
      obtain ⟨ad229, e229, hx229_0⟩ := Kd.at_int (Kd.R_reads' HO_7.out).2.2 x9_1 p229 q229
      obtain rfl : ad227 = ad229 := (by injection e229)
      replace p229 := eq_true p229
      replace q229 := eq_true q229
      refine start_ (n := 14) (S := fun w' => w'.cell? (ad227.add (x9_1).toNat) = some (.int .i64 (rd t224 x9_1)) ∧ w'.cell? (ad227.add (x9_1).toNat) = some (.int .i64 (rd t224 x9_1))) (ds := []) (ml_ 14 0) (by kernel_rfl) rfl rfl ⟨hx227_0, hx229_0⟩ (fun hHeld => ?_); refine with_tabW caravanref1_Mix.tab6 caravanref1_Mix.bits6 (fun HT_ HW_ => ?_)
      generalize wr.drew = w13 at HO_7 HO_8 HB hx227_0 hx229_0 hHeld ⊢
      refine pA_ 0 23 (ml_ 14 1) rfl rfl HT_.out ?_
      refine pA_ 1 24 (ml_ 14 3) rfl rfl HT_.out ?_
      refine pA_ 2 25 (ml_ 14 7) rfl rfl HT_.out ?_
      refine pA_ 3 26 (ml_ 14 15) rfl rfl HT_.out ?_
      refine pA_ 6 29 (ml_ 14 79) rfl rfl HT_.out ?_
      refine pA_ 7 30 (ml_ 14 207) rfl rfl HT_.out ?_
      refine pA_ 8 31 (ml_ 14 463) rfl rfl HT_.out ?_
      refine pA_ 9 32 (ml_ 14 975) rfl rfl HT_.out ?_
      refine t2_ 4 27 (ml_ 14 991) rfl rfl HT_.out HW_.out hHeld ?_
      refine t2_ 10 33 (ml_ 14 2015) rfl rfl HT_.out HW_.out hHeld ?_
      refine one_ (i := 5) (N := some 28) (ml_ 14 2047) rfl rfl (one_of HT_.out (by kernel_rfl)) (by decide) (fun K hK => ?_)
      refine goes_ Tryd.func19 (by kernel_rfl) rfl #[.slice A1 l1.length c1, .int .i64 (rd t224 x9_1)] (by rfl) rfl rfl qM_ ?_
      with_reducible refine (caravanref1_Has.calls k1 _ _ l1 (rd t224 x9_1) t228 _ ?side1 ?side2 A9.out).mono ?_
      (case side1 => exact qC_ ((Kd.C_below HR1.out HB.out)))
      (case side2 => exact HC1.out)
      rintro e w' ⟨rfl, ⟨nd, rfl⟩⟩
      refine ⟨_, rfl, ?_⟩
      refine hK.out _ _ ⟨hHeld.1, hHeld.2⟩ (fun hHeld => ?_)
      clear hK K
      refine nA_ 28 ?_
      refine one_ (i := 11) (N := some 34) (ml_ 14 4095) rfl rfl (one_of HT_.out (by kernel_rfl)) (by decide) (fun K hK => ?_)
      refine goes_ Tryd.func19 (by kernel_rfl) rfl #[.slice A2 l2.length c2, .int .i64 (rd t224 x9_1)] (by rfl) rfl rfl qM_ ?_
      with_reducible refine (caravanref1_Has.calls k1 _ _ l2 (rd t224 x9_1) t230 _ ?side1 ?side2 A10.out).mono ?_
      (case side1 => repeat (first | exact (Kd.C_below HR2.out (qdb35_ HB.out)) | (with_reducible refine Kd.C_alloc ?_ _) | (with_reducible refine Kd.C_drewN ?_ _) | (with_reducible refine Kd.C_drew ?_)))
      (case side2 => exact HC2.out)
      rintro e w' ⟨rfl, ⟨nd, rfl⟩⟩
      refine ⟨_, rfl, ?_⟩
      refine hK.out _ _ ⟨hHeld.1, hHeld.2⟩ (fun hHeld => ?_)
      clear hK K
      refine nA_ 34 ?_
      refine pA_ 12 10 (ml_ 14 8191) rfl rfl HT_.out ?_
      refine pA_ 13 11 (ml_ 14 16383) rfl rfl HT_.out ?_
      refine done_ (done_of HT_.out (by kernel_rfl)) ?_
      go_upto_region 7 with (fail)
      go_cut [12] (fun v12 wc => ∃ (kq : Nat) (x12_10 : Bool), v12 = .bool x12_10 ∧ Aside0 (caravanref1_Mix.j1 kq a0 l1 l2 t224 x8_1 x9_1 t228 t230 x12_10 = some r) ∧ Aside0 (kq ≤ k1) ∧ Aside0 (Kd.R (Kd.int .i64) 3 wc w.heap.size (fun _ => True) (.slice (some ad227) t224.length co12) t224) ∧ Aside0 (Kd.R k31 31 wc w.heap.size (fun _ => True) u8 x8_1) ∧ Aside0 (Below w.heap.size w wc))
      case first =>
       have H := HC11.out
       clear HC11
       by_cases c14 : t228 = true
       ·subst c14
        have H1 : (caravanref1_Mix.j1 k1 a0 l1 l2 t224 x8_1 x9_1 true t230 true) = some r := by rw [if_pos rfl] at H; exact H
        clear H
        have H := H1
        clear H1
        have H' := Aside0.mk H
        clear H
        go_wp2
        go_meet
        case rel => exact ⟨_, (true), (by first | rfl | (simp; done) | (simp [*]; done)), H', ⟨by have := HK1.out; first | omega | exact Nat.le_refl _⟩, ⟨by (with_reducible repeat (first | apply Kd.R_alloc | apply Kd.R_drewN | apply Kd.R_drew)); exact HO_7.out⟩, ⟨by (with_reducible repeat (first | apply Kd.R_alloc | apply Kd.R_drewN | apply Kd.R_drew)); exact HO_8.out⟩, ⟨(qdb35_ HB.out)⟩⟩
       ·replace c14 := Bool.eq_false_iff.mpr c14
        subst c14
        have H1 : (caravanref1_Mix.j1 k1 a0 l1 l2 t224 x8_1 x9_1 false t230 t230) = some r := by rw [if_neg (show ¬ (false = true) by decide)] at H; exact H
        clear H
        have H := H1
        clear H1
        have H' := Aside0.mk H
        clear H
        go_wp2
        go_meet
        case rel => exact ⟨_, (t230), (by first | rfl | (simp; done) | (simp [*]; done)), H', ⟨by have := HK1.out; first | omega | exact Nat.le_refl _⟩, ⟨by (with_reducible repeat (first | apply Kd.R_alloc | apply Kd.R_drewN | apply Kd.R_drew)); exact HO_7.out⟩, ⟨by (with_reducible repeat (first | apply Kd.R_alloc | apply Kd.R_drewN | apply Kd.R_drew)); exact HO_8.out⟩, ⟨(qdb35_ HB.out)⟩⟩
      case rest =>
       clear HC11
       try clear c1
       try clear c2
       try clear p2
       try clear q2
       try clear hx2
       try clear c3
       try clear c6
       try clear c6b0
       try clear p6
       try clear c7
       try clear c7b0
       try clear c8
       try clear c8b0
       try clear c14
       try clear hx227_0
       try clear hx229_0
       try clear p2
       try clear p227
       try clear p229
       try clear q227
       try clear q229
       obtain ⟨kq, x12_10, rfl, HA, HJ10, HO_7, HO_8, HB⟩ := hcut
       cases kq with
       | zero => exact absurd HA.out (by simp [caravanref1_Mix.j1])
       | succ kj10 =>
        have H := HA.out
        clear HA
        simp only [caravanref1_Mix.j1] at H
        have HC15 := Aside0.mk H
        clear H
        go_upto_block 2 with (fail)
        go_cut [12] (fun v12 wc => ∃ (kq : Nat) (x12_14 : Bool), v12 = .bool x12_14 ∧ Aside0 (caravanref1_Mix.j2 kq a0 l1 l2 t224 x8_1 x9_1 x12_14 = some r) ∧ Aside0 (kq ≤ kj10) ∧ Aside0 (Kd.R (Kd.int .i64) 3 wc w.heap.size (fun _ => True) (.slice (some ad227) t224.length co12) t224) ∧ Aside0 (Kd.R k31 31 wc w.heap.size (fun _ => True) u8 x8_1) ∧ Aside0 (Below w.heap.size w wc))
        case first =>
         have H := HC15.out
         clear HC15
         by_cases c16 : a0 = 1
         ·rw [if_pos c16] at H
          have c16b0 : (a0 == 1) = true := beq_iff_eq.mpr c16
          have c16b1 : (a0 != 1) = false := bne_eq_false_iff_eq.mpr c16
          clear c16
          (first | rw [c16b0] | (simp only [i64_w, i32_w]; rw [c16b0]) | skip)
          by_cases c17 : t228 = true
          ·subst c17
           have H1 : (caravanref1_Mix.j2 kj10 a0 l1 l2 t224 x8_1 x9_1 (!t230)) = some r := by rw [if_pos rfl] at H; exact H
           clear H
           have H := H1
           clear H1
           have H' := Aside0.mk H
           clear H
           go_wp2
           go_meet
           case rel => exact ⟨_, (!t230), (by first | rfl | (simp; done) | (simp [*]; done)), H', ⟨by have := HK1.out; have := HJ10.out; first | omega | exact Nat.le_refl _⟩, ⟨by (with_reducible repeat (first | apply Kd.R_alloc | apply Kd.R_drewN | apply Kd.R_drew)); exact HO_7.out⟩, ⟨by (with_reducible repeat (first | apply Kd.R_alloc | apply Kd.R_drewN | apply Kd.R_drew)); exact HO_8.out⟩, ⟨(qdb35_ HB.out)⟩⟩
          ·replace c17 := Bool.eq_false_iff.mpr c17
           subst c17
           have H1 : (caravanref1_Mix.j2 kj10 a0 l1 l2 t224 x8_1 x9_1 false) = some r := by rw [if_neg (show ¬ (false = true) by decide)] at H; exact H
           clear H
           have H := H1
           clear H1
           have H' := Aside0.mk H
           clear H
           go_wp2
           go_meet
           case rel => exact ⟨_, (false), (by first | rfl | (simp; done) | (simp [*]; done)), H', ⟨by have := HK1.out; have := HJ10.out; first | omega | exact Nat.le_refl _⟩, ⟨by (with_reducible repeat (first | apply Kd.R_alloc | apply Kd.R_drewN | apply Kd.R_drew)); exact HO_7.out⟩, ⟨by (with_reducible repeat (first | apply Kd.R_alloc | apply Kd.R_drewN | apply Kd.R_drew)); exact HO_8.out⟩, ⟨(qdb35_ HB.out)⟩⟩
         ·rw [if_neg c16] at H
          have c16b0 : (a0 == 1) = false := beq_eq_false_iff_ne.mpr c16
          have c16b1 : (a0 != 1) = true := bne_iff_ne.mpr c16
          (first | rw [c16b0] | (simp only [i64_w, i32_w]; rw [c16b0]) | skip)
          by_cases c18 : a0 = 2
          ·rw [if_pos c18] at H
           have c18b0 : (a0 == 2) = true := beq_iff_eq.mpr c18
           have c18b1 : (a0 != 2) = false := bne_eq_false_iff_eq.mpr c18
           clear c18
           by_cases c19 : t228 = true
           ·subst c19
            have H1 : (caravanref1_Mix.j2 kj10 a0 l1 l2 t224 x8_1 x9_1 t230) = some r := by rw [if_pos rfl] at H; exact H
            clear H
            have H := H1
            clear H1
            have H' := Aside0.mk H
            clear H
            go_wp2
            go_meet
            case rel => exact ⟨_, (t230), (by first | rfl | (simp; done) | (simp [*]; done)), H', ⟨by have := HK1.out; have := HJ10.out; first | omega | exact Nat.le_refl _⟩, ⟨by (with_reducible repeat (first | apply Kd.R_alloc | apply Kd.R_drewN | apply Kd.R_drew)); exact HO_7.out⟩, ⟨by (with_reducible repeat (first | apply Kd.R_alloc | apply Kd.R_drewN | apply Kd.R_drew)); exact HO_8.out⟩, ⟨(qdb35_ HB.out)⟩⟩
           ·replace c19 := Bool.eq_false_iff.mpr c19
            subst c19
            have H1 : (caravanref1_Mix.j2 kj10 a0 l1 l2 t224 x8_1 x9_1 false) = some r := by rw [if_neg (show ¬ (false = true) by decide)] at H; exact H
            clear H
            have H := H1
            clear H1
            have H' := Aside0.mk H
            clear H
            go_wp2
            go_meet
            case rel => exact ⟨_, (false), (by first | rfl | (simp; done) | (simp [*]; done)), H', ⟨by have := HK1.out; have := HJ10.out; first | omega | exact Nat.le_refl _⟩, ⟨by (with_reducible repeat (first | apply Kd.R_alloc | apply Kd.R_drewN | apply Kd.R_drew)); exact HO_7.out⟩, ⟨by (with_reducible repeat (first | apply Kd.R_alloc | apply Kd.R_drewN | apply Kd.R_drew)); exact HO_8.out⟩, ⟨(qdb35_ HB.out)⟩⟩
          ·rw [if_neg c18] at H
           have c18b0 : (a0 == 2) = false := beq_eq_false_iff_ne.mpr c18
           have c18b1 : (a0 != 2) = true := bne_iff_ne.mpr c18
           have H' := Aside0.mk H
           clear H
           go_wp2
           go_meet
           case rel => exact ⟨_, (x12_10), (by first | rfl | (simp; done) | (simp [*]; done)), H', ⟨by have := HK1.out; have := HJ10.out; first | omega | exact Nat.le_refl _⟩, ⟨by (with_reducible repeat (first | apply Kd.R_alloc | apply Kd.R_drewN | apply Kd.R_drew)); exact HO_7.out⟩, ⟨by (with_reducible repeat (first | apply Kd.R_alloc | apply Kd.R_drewN | apply Kd.R_drew)); exact HO_8.out⟩, ⟨(qdb35_ HB.out)⟩⟩
        case rest =>
         clear HC15
         try clear c1
         try clear c2
         try clear p2
         try clear q2
         try clear hx2
         try clear c3
         try clear c6
         try clear c6b0
         try clear p6
         try clear c7
         try clear c7b0
         try clear c8
         try clear c8b0
         try clear c14
         try clear c16
         try clear c16b0
         try clear c16b1
         try clear c17
         try clear c18
         try clear c18b0
         try clear c18b1
         try clear c19
         try clear hx227_0
         try clear hx229_0
         try clear p2
         try clear p227
         try clear p229
         try clear p6
         try clear q2
         try clear q227
         try clear q229
         obtain ⟨kq, x12_14, rfl, HA, HJ14, HO_7, HO_8, HB⟩ := hcut
         cases kq with
         | zero => exact absurd HA.out (by simp [caravanref1_Mix.j2])
         | succ kj14 =>
          have H := HA.out
          clear HA
          simp only [caravanref1_Mix.j2] at H
          by_cases c20 : x12_14 = true
          ·subst c20
           have H1 : (if (x8_1.length : Int) > 0 then (if 0 ≤ (wrap64 ((x8_1.length : Int) - 1)) then (if (wrap64 ((x8_1.length : Int) - 1)) < (x8_1.length : Int) then (if 0 ≤ x9_1 then (if x9_1 < (t224.length : Int) then (if ((rd_T31 x8_1 (wrap64 ((x8_1.length : Int) - 1))).f1) = (wrap64 ((rd t224 x9_1) - 1)) then (if 0 ≤ (wrap64 (x9_1 + 1)) then (if (wrap64 (x9_1 + 1)) < (t224.length : Int) then (caravanref1_Mix.l0 kj14 a0 l1 l2 t224 (x8_1.set ((wrap64 ((x8_1.length : Int) - 1)) : Int).toNat (⟨(rd_T31 x8_1 (wrap64 ((x8_1.length : Int) - 1))).f0, wrap64 ((rd t224 (wrap64 (x9_1 + 1))) - 1)⟩ : S31)) (wrap64 (x9_1 + 1))) else (none)) else (none)) else (if 0 ≤ (wrap64 (x9_1 + 1)) then (if (wrap64 (x9_1 + 1)) < (t224.length : Int) then (if x8_1.length < 8796093022208 then (caravanref1_Mix.l0 kj14 a0 l1 l2 t224 (x8_1 ++ [(⟨rd t224 x9_1, wrap64 ((rd t224 (wrap64 (x9_1 + 1))) - 1)⟩ : S31)]) (wrap64 (x9_1 + 1))) else (none)) else (none)) else (none))) else (none)) else (none)) else (none)) else (none)) else (if 0 ≤ x9_1 then (if x9_1 < (t224.length : Int) then (if 0 ≤ (wrap64 (x9_1 + 1)) then (if (wrap64 (x9_1 + 1)) < (t224.length : Int) then (if x8_1.length < 8796093022208 then (caravanref1_Mix.l0 kj14 a0 l1 l2 t224 (x8_1 ++ [(⟨rd t224 x9_1, wrap64 ((rd t224 (wrap64 (x9_1 + 1))) - 1)⟩ : S31)]) (wrap64 (x9_1 + 1))) else (none)) else (none)) else (none)) else (none)) else (none))) = some r := by rw [if_pos rfl] at H; exact H
           clear H
           have H := H1
           clear H1
           by_cases c21 : (x8_1.length : Int) > 0
           ·rw [if_pos c21] at H
            have c21b0 : decide (0 < (x8_1.length : Int)) = true := decide_eq_true c21
            have c21b1 : decide (0 < x8_1.length) = true := decide_eq_true (by omega)
            clear c21
            obtain ⟨ji22, hji22⟩ : ∃ j_ : Int, (wrap64 ((x8_1.length : Int) - 1)) = j_ := ⟨_, rfl⟩
            replace H : (if 0 ≤ (ji22) then (if (ji22) < (x8_1.length : Int) then (if 0 ≤ x9_1 then (if x9_1 < (t224.length : Int) then (if ((rd_T31 x8_1 (ji22)).f1) = (wrap64 ((rd t224 x9_1) - 1)) then (if 0 ≤ (wrap64 (x9_1 + 1)) then (if (wrap64 (x9_1 + 1)) < (t224.length : Int) then (caravanref1_Mix.l0 kj14 a0 l1 l2 t224 (x8_1.set ((ji22) : Int).toNat (⟨(rd_T31 x8_1 (ji22)).f0, wrap64 ((rd t224 (wrap64 (x9_1 + 1))) - 1)⟩ : S31)) (wrap64 (x9_1 + 1))) else (none)) else (none)) else (if 0 ≤ (wrap64 (x9_1 + 1)) then (if (wrap64 (x9_1 + 1)) < (t224.length : Int) then (if x8_1.length < 8796093022208 then (caravanref1_Mix.l0 kj14 a0 l1 l2 t224 (x8_1 ++ [(⟨rd t224 x9_1, wrap64 ((rd t224 (wrap64 (x9_1 + 1))) - 1)⟩ : S31)]) (wrap64 (x9_1 + 1))) else (none)) else (none)) else (none))) else (none)) else (none)) else (none)) else (none)) = some r := by first | (rw [hji22] at H; exact H) | (simp only [hji22] at H ⊢; exact H)
            have hji22w : (IntKind.i64.wrap ((x8_1.length : Int) - 1)) = ji22 := (i64_w _).trans hji22
            by_cases c23 : 0 ≤ (ji22)
            ·rw [if_pos c23] at H
             have c23b0 : decide (0 ≤ (ji22)) = true := decide_eq_true c23
             clear c23
             by_cases c24 : (ji22) < (x8_1.length : Int)
             ·rw [if_pos c24] at H
              have c24b0 : decide ((ji22) < (x8_1.length : Int)) = true := decide_eq_true c24
              clear c24
              by_cases c25 : 0 ≤ x9_1
              ·rw [if_pos c25] at H
               have c25b0 : decide (0 ≤ x9_1) = true := decide_eq_true c25
               clear c25
               by_cases c26 : x9_1 < (t224.length : Int)
               ·rw [if_pos c26] at H
                have c26b0 : decide (x9_1 < (t224.length : Int)) = true := decide_eq_true c26
                clear c26
                by_cases c27 : ((rd_T31 x8_1 (ji22)).f1) = (wrap64 ((rd t224 x9_1) - 1))
                ·rw [if_pos c27] at H
                 have c27b0 : (((rd_T31 x8_1 (ji22)).f1) == (wrap64 ((rd t224 x9_1) - 1))) = true := beq_iff_eq.mpr c27
                 have c27b1 : (((rd_T31 x8_1 (ji22)).f1) != (wrap64 ((rd t224 x9_1) - 1))) = false := bne_eq_false_iff_eq.mpr c27
                 clear c27
                 obtain ⟨ji28, hji28⟩ : ∃ j_ : Int, (wrap64 (x9_1 + 1)) = j_ := ⟨_, rfl⟩
                 replace H : (if 0 ≤ (ji28) then (if (ji28) < (t224.length : Int) then (caravanref1_Mix.l0 kj14 a0 l1 l2 t224 (x8_1.set ((ji22) : Int).toNat (⟨(rd_T31 x8_1 (ji22)).f0, wrap64 ((rd t224 (ji28)) - 1)⟩ : S31)) ji28) else (none)) else (none)) = some r := by first | (rw [hji28] at H; exact H) | (simp only [hji28] at H ⊢; exact H)
                 (try rw [hji28] at c6b0)
                 have hji28w : (IntKind.i64.wrap (x9_1 + 1)) = ji28 := (i64_w _).trans hji28
                 by_cases c29 : 0 ≤ (ji28)
                 ·rw [if_pos c29] at H
                  have c29b0 : decide (0 ≤ (ji28)) = true := decide_eq_true c29
                  clear c29
                  by_cases c30 : (ji28) < (t224.length : Int)
                  ·rw [if_pos c30] at H
                   have c30b0 : decide ((ji28) < (t224.length : Int)) = true := decide_eq_true c30
                   clear c30
                   obtain ⟨y234, hy234⟩ : ∃ y_ : List (S31), y_ = (x8_1.set ((ji22) : Int).toNat (⟨(rd_T31 x8_1 (ji22)).f0, wrap64 ((rd t224 (ji28)) - 1)⟩ : S31)) := ⟨_, rfl⟩
                   replace H : (caravanref1_Mix.l0 kj14 a0 l1 l2 t224 y234 ji28) = some r := by first | (rw [hy234]; with_reducible exact H) | (have H2_ := (Option.bind_some _ _).symm.trans H; rw [hy234]; with_reducible exact H2_) | (have H2_ := (Option.bind_some _ _).symm.trans H; with_reducible exact H2_) | with_reducible exact H | (rw [hy234]; exact H) | exact H
                   have Ny234 := Aside0.mk hy234
                   clear hy234
                   have H' := Aside0.mk H
                   clear H
                   try go_wp2
                   have n0_ := Aside0.mk (Kd.R_drew HO_7.out)
                   have n1_ := Aside0.mk (Kd.R_drew HO_8.out)
                   have n2_ := Aside0.mk (below_drew1 HB.out)
                   clear HO_7
                   clear HO_8
                   clear HB
                   have HO_7 := n0_
                   have HO_8 := n1_
                   have HB := n2_
                   clear n0_ n1_ n2_
                   obtain ⟨Ao33, co33, eo33⟩ := Kd.R_slice HO_8.out
                   (first | subst eo33 | (injection eo33 with f1_ f2_ f3_; have f4_ := f1_.symm; have f5_ := f3_.symm; clear f1_ f2_ f3_; subst f4_; subst f5_))
                   have p231 : 0 ≤ ((ji22) : Int) := of_decide_eq_true (by first | (with_reducible assumption) | assumption)
                   have q231 : (ji22) < (x8_1.length : Int) := of_decide_eq_true (by first | (with_reducible assumption) | assumption)
                   obtain ⟨ad231, e231, hx231_0, hx231_1⟩ := at_T31 (Kd.R_reads' HO_8.out).2.2 (ji22) p231 q231
                   cases e231
                   replace p231 := eq_true p231
                   replace q231 := eq_true q231
                   have p232 : 0 ≤ (x9_1 : Int) := of_decide_eq_true (by first | (with_reducible assumption) | assumption)
                   have q232 : x9_1 < (t224.length : Int) := of_decide_eq_true (by first | (with_reducible assumption) | assumption)
                   obtain ⟨ad232, e232, hx232_0⟩ := Kd.at_int (Kd.R_reads' HO_7.out).2.2 x9_1 p232 q232
                   obtain rfl : ad227 = ad232 := (by injection e232)
                   replace p232 := eq_true p232
                   replace q232 := eq_true q232
                   refine start_ (n := 19) (S := fun w' => w'.cell? (ad231.add (((ji22)).toNat * 2)) = some (.int .i64 ((rd_T31 x8_1 (ji22)).f0)) ∧ w'.cell? ⟨(ad231.add (((ji22)).toNat * 2)).block, (ad231.add (((ji22)).toNat * 2)).off + 1, none⟩ = some (.int .i64 ((rd_T31 x8_1 (ji22)).f1)) ∧ w'.cell? (ad227.add (x9_1).toNat) = some (.int .i64 (rd t224 x9_1))) (ds := []) (ml_ 19 0) (by kernel_rfl) rfl rfl ⟨hx231_0, hx231_1, hx232_0⟩ (fun hHeld => ?_); refine with_tabW caravanref1_Mix.tab15 caravanref1_Mix.bits15 (fun HT_ HW_ => ?_)
                   generalize wc.drew = w32 at HO_7 HO_8 HB hx231_0 hx231_1 hx232_0 hHeld ⊢
                   refine pA_ 0 71 (ml_ 19 1) rfl rfl HT_.out ?_
                   refine pA_ 1 72 (ml_ 19 3) rfl rfl HT_.out ?_
                   refine pA_ 2 73 (ml_ 19 7) rfl rfl HT_.out ?_
                   refine pA_ 3 74 (ml_ 19 15) rfl rfl HT_.out ?_
                   refine pA_ 4 75 (ml_ 19 31) rfl rfl HT_.out ?_
                   refine pA_ 5 76 (ml_ 19 63) rfl rfl HT_.out ?_
                   refine pA_ 6 77 (ml_ 19 127) rfl rfl HT_.out ?_
                   refine pA_ 7 78 (ml_ 19 255) rfl rfl HT_.out ?_
                   refine pA_ 8 79 (ml_ 19 511) rfl rfl HT_.out ?_
                   refine pA_ 9 80 (ml_ 19 1023) rfl rfl HT_.out ?_
                   refine pA_ 11 82 (ml_ 19 3071) rfl rfl HT_.out ?_
                   refine pA_ 12 83 (ml_ 19 7167) rfl rfl HT_.out ?_
                   refine pA_ 13 84 (ml_ 19 15359) rfl rfl HT_.out ?_
                   refine t3_ 10 81 (ml_ 19 16383) rfl rfl HT_.out HW_.out hHeld ?_
                   refine t3_ 14 85 (ml_ 19 32767) rfl rfl HT_.out HW_.out hHeld ?_
                   refine pA_ 15 86 (ml_ 19 65535) rfl rfl HT_.out ?_
                   refine pA_ 16 87 (ml_ 19 131071) rfl rfl HT_.out ?_
                   refine pA_ 17 88 (ml_ 19 262143) rfl rfl HT_.out ?_
                   refine pA_ 18 70 (ml_ 19 524287) rfl rfl HT_.out ?_
                   refine done_ (done_of HT_.out (by kernel_rfl)) ?_
                   have p233 : 0 ≤ ((ji28) : Int) := of_decide_eq_true (by first | (with_reducible assumption) | assumption)
                   have q233 : (ji28) < (t224.length : Int) := of_decide_eq_true (by first | (with_reducible assumption) | assumption)
                   obtain ⟨ad233, e233, hx233_0⟩ := Kd.at_int (Kd.R_reads' HO_7.out).2.2 (ji28) p233 q233
                   obtain rfl : ad227 = ad233 := (by injection e233)
                   replace p233 := eq_true p233
                   replace q233 := eq_true q233
                   have p31 : 0 ≤ ((ji22) : Int) := of_decide_eq_true (by first | (with_reducible assumption) | assumption)
                   have q31 : ((ji22) : Int) < ((x8_1.length : Int) : Int) := of_decide_eq_true (by first | (with_reducible assumption) | assumption)
                   obtain ⟨go31, co31, eo31, gb31, gl31, cl31, HG31⟩ := Kd.R_form HO_8.out (by omega)
                   (first | cases eo31 | (injection eo31 with ea_ en_ ec_; (first | subst ea_ | (injection ea_ with ea_; subst ea_)); subst ec_; clear en_))
                   have GB31 := Aside0.mk gb31
                   have GG31 := Aside0.mk HG31
                   clear gb31 gl31 HG31
                   (first | simp only [add_plain] at hx231_0 | skip)
                   (first | simp only [add_plain] at hx231_1 | skip)
                   obtain ⟨ce31, hcl31, hM31, hcc31, hfr31⟩ := Kd.R_elem HO_8.out z31 ((ji22) : Int) p31 q31
                   obtain rfl := k31_openM hM31
                   have hx31_0 : w32.cell? ⟨go31, ((ji22) : Int).toNat * 2, none⟩ = some (.int .i64 ((rd_T31 x8_1 (ji22)).f0)) := hcc31 0 _ rfl
                   have hx31_1 : w32.cell? ⟨go31, ((ji22) : Int).toNat * 2 + 1, none⟩ = some (.int .i64 ((rd_T31 x8_1 (ji22)).f1)) := hcc31 1 _ rfl
                   have hf31_0 : w32.frozen? ⟨go31, ((ji22) : Int).toNat * 2, none⟩ = false := hfr31 0
                   have hf31_1 : w32.frozen? ⟨go31, ((ji22) : Int).toNat * 2 + 1, none⟩ = false := hfr31 1
                   clear hcl31 hcc31 hfr31 hM31
                   replace p31 := eq_true p31
                   replace q31 := eq_true q31
                   have HX34 := Aside0.mk (show Kd.R k31 31 w32 w.heap.size (fun _ => True) (.slice (some ⟨go31, 0, none⟩) x8_1.length co33) x8_1 from (q8524_ HO_8.out))
                   obtain ⟨ce34, hcl34, hM34, hcc34, hfr34⟩ := Kd.R_elem HX34.out z31 ((ji22) : Int) (of_decide_eq_true (by first | (with_reducible assumption) | assumption)) (by have h_ : ((ji22) : Int) < ((x8_1.length : Int) : Int) := of_decide_eq_true (by first | (with_reducible assumption) | assumption); first | exact h_ | (have e_ := (Kd.R_reads' HO_8.out).1; omega) | simpa using h_)
                   obtain rfl := k31_openM hM34
                   have HP34 := Kd.R_seg HX34.out ((ji22) : Int) (of_decide_eq_true (by first | (with_reducible assumption) | assumption)) (by have h_ : ((ji22) : Int) < ((x8_1.length : Int) : Int) := of_decide_eq_true (by first | (with_reducible assumption) | assumption); first | exact h_ | (have e_ := (Kd.R_reads' HO_8.out).1; omega) | simpa using h_) (seg := [.int .i64 (wrap64 ((rd t224 (ji28)) - 1))]) (j := 1) hcl34 hcc34 (show 2 ≤ 2 from by decide) (x' := (⟨(rd_T31 x8_1 (ji22)).f0, wrap64 ((rd t224 (ji28)) - 1)⟩ : S31)) (k31_mkM _ _ _ (⟨(rd_T31 x8_1 (ji22)).f0, wrap64 ((rd t224 (ji28)) - 1)⟩ : S31) ) (fun _ hk => hk)
                   have hx34_1 := hcc34 1 _ rfl
                   (try simp only [show (k31).sz = 2 from rfl, Nat.mul_one, Nat.add_zero] at hx34_1)
                   have hf34_1 := hfr34 1
                   (try simp only [show (k31).sz = 2 from rfl, Nat.mul_one, Nat.add_zero] at hf34_1)
                   clear hcl34 hcc34 hfr34 hM34
                   try go_wp2_with (first | ((with_reducible refine gate_store (t := 3) (p := 100) rfl ?_); refine store_event (t := 3) (p := 100) (v := ?vo_w35) (w1 := (w32.setCell ⟨go31, ((ji22) : Int).toNat * 2 + 1, none⟩ (.int .i64 (wrap64 ((rd t224 (ji28)) - 1))))) ?hg ?ho ?hn ?hr ?_; (case ho => rfl); (case hg => rfl); (case hn => rfl); (case hr => first | (go_simp; done) | (go_simp; rfl)); intro w35 hw; have hg : w32.grownBy w35 (some go31) := (by rw [hw]; exact HP34.2); have hp_ : Kd.R k31 31 w35 w.heap.size (fun _ => True) (.slice (some ⟨go31, 0, none⟩) x8_1.length co33) y234 := (by rw [hw, Ny234.out]; exact HP34.1); clear HP34; have n0_ := Aside0.mk (Kd.R_over' (v := (.slice (some ⟨go31, 0, none⟩) x8_1.length co33)) (q8524_ HO_7.out) (Kd.R_typed HO_8.out) (by decide) hg); have n1_ := Aside0.mk (hp_); have n2_ := Aside0.mk ((by rw [hw]; exact below_set (HB.out) GB31.out : Below w.heap.size w w35)); clear HO_7; clear HO_8; clear HB; have HO_7 := n0_; have HO_8 := n1_; have HB := n2_; clear n0_ n1_ n2_; clear hg hw hp_))
                   go_roundg kj14
                   case measure => have := HK1.out; have := HJ10.out; have := HJ14.out; omega
                   case rel => exact ⟨(y234), (ji28), (by first | rfl | (simp; done) | (simp only [← hji28] <;> (first | rfl | simp)) | (simp [*]; done)), H', ⟨by have := HK1.out; have := HJ10.out; have := HJ14.out; omega⟩, ⟨by (with_reducible repeat (first | apply Kd.R_alloc | apply Kd.R_drewN | apply Kd.R_drew)); exact HO_7.out⟩, ⟨by (with_reducible repeat (first | apply Kd.R_alloc | apply Kd.R_drewN | apply Kd.R_drew)); exact HO_8.out⟩, ⟨(qdb35_ HB.out)⟩⟩
                  ·rw [if_neg c30] at H
                   exact absurd H (by simp)
                 ·rw [if_neg c29] at H
                  exact absurd H (by simp)
                ·rw [if_neg c27] at H
                 have c27b0 : (((rd_T31 x8_1 (ji22)).f1) == (wrap64 ((rd t224 x9_1) - 1))) = false := beq_eq_false_iff_ne.mpr c27
                 have c27b1 : (((rd_T31 x8_1 (ji22)).f1) != (wrap64 ((rd t224 x9_1) - 1))) = true := bne_iff_ne.mpr c27
                 obtain ⟨ji36, hji36⟩ : ∃ j_ : Int, (wrap64 (x9_1 + 1)) = j_ := ⟨_, rfl⟩
                 replace H : (if 0 ≤ (ji36) then (if (ji36) < (t224.length : Int) then (if x8_1.length < 8796093022208 then (caravanref1_Mix.l0 kj14 a0 l1 l2 t224 (x8_1 ++ [(⟨rd t224 x9_1, wrap64 ((rd t224 (ji36)) - 1)⟩ : S31)]) ji36) else (none)) else (none)) else (none)) = some r := by first | (rw [hji36] at H; exact H) | (simp only [hji36] at H ⊢; exact H)
                 (try rw [hji36] at c6b0)
                 have hji36w : (IntKind.i64.wrap (x9_1 + 1)) = ji36 := (i64_w _).trans hji36
                 by_cases c37 : 0 ≤ (ji36)
                 ·rw [if_pos c37] at H
                  have c37b0 : decide (0 ≤ (ji36)) = true := decide_eq_true c37
                  clear c37
                  by_cases c38 : (ji36) < (t224.length : Int)
                  ·rw [if_pos c38] at H
                   have c38b0 : decide ((ji36) < (t224.length : Int)) = true := decide_eq_true c38
                   clear c38
                   by_cases c39 : x8_1.length < 8796093022208
                   ·rw [if_pos c39] at H
                    have LMc39 := Aside0.mk c39
                    clear c39
                    obtain ⟨y237, hy237⟩ : ∃ y_ : List (S31), y_ = (x8_1 ++ [(⟨rd t224 x9_1, wrap64 ((rd t224 (ji36)) - 1)⟩ : S31)]) := ⟨_, rfl⟩
                    replace H : (caravanref1_Mix.l0 kj14 a0 l1 l2 t224 y237 ji36) = some r := by first | (rw [hy237]; with_reducible exact H) | (have H2_ := (Option.bind_some _ _).symm.trans H; rw [hy237]; with_reducible exact H2_) | (have H2_ := (Option.bind_some _ _).symm.trans H; with_reducible exact H2_) | with_reducible exact H | (rw [hy237]; exact H) | exact H
                    have Ny237 := Aside0.mk hy237
                    clear hy237
                    have H' := Aside0.mk H
                    clear H
                    try go_wp2
                    have n0_ := Aside0.mk (Kd.R_drew HO_7.out)
                    have n1_ := Aside0.mk (Kd.R_drew HO_8.out)
                    have n2_ := Aside0.mk (below_drew1 HB.out)
                    clear HO_7
                    clear HO_8
                    clear HB
                    have HO_7 := n0_
                    have HO_8 := n1_
                    have HB := n2_
                    clear n0_ n1_ n2_
                    obtain ⟨Ao41, co41, eo41⟩ := Kd.R_slice HO_8.out
                    (first | subst eo41 | (injection eo41 with f1_ f2_ f3_; have f4_ := f1_.symm; have f5_ := f3_.symm; clear f1_ f2_ f3_; subst f4_; subst f5_))
                    have p231 : 0 ≤ ((ji22) : Int) := of_decide_eq_true (by first | (with_reducible assumption) | assumption)
                    have q231 : (ji22) < (x8_1.length : Int) := of_decide_eq_true (by first | (with_reducible assumption) | assumption)
                    obtain ⟨ad231, e231, hx231_0, hx231_1⟩ := at_T31 (Kd.R_reads' HO_8.out).2.2 (ji22) p231 q231
                    cases e231
                    replace p231 := eq_true p231
                    replace q231 := eq_true q231
                    have p232 : 0 ≤ (x9_1 : Int) := of_decide_eq_true (by first | (with_reducible assumption) | assumption)
                    have q232 : x9_1 < (t224.length : Int) := of_decide_eq_true (by first | (with_reducible assumption) | assumption)
                    obtain ⟨ad232, e232, hx232_0⟩ := Kd.at_int (Kd.R_reads' HO_7.out).2.2 x9_1 p232 q232
                    obtain rfl : ad227 = ad232 := (by injection e232)
                    replace p232 := eq_true p232
                    replace q232 := eq_true q232
                    refine start_ (n := 19) (S := fun w' => w'.cell? (ad231.add (((ji22)).toNat * 2)) = some (.int .i64 ((rd_T31 x8_1 (ji22)).f0)) ∧ w'.cell? ⟨(ad231.add (((ji22)).toNat * 2)).block, (ad231.add (((ji22)).toNat * 2)).off + 1, none⟩ = some (.int .i64 ((rd_T31 x8_1 (ji22)).f1)) ∧ w'.cell? (ad227.add (x9_1).toNat) = some (.int .i64 (rd t224 x9_1))) (ds := []) (ml_ 19 0) (by kernel_rfl) rfl rfl ⟨hx231_0, hx231_1, hx232_0⟩ (fun hHeld => ?_); refine with_tabW caravanref1_Mix.tab15 caravanref1_Mix.bits15 (fun HT_ HW_ => ?_)
                    generalize wc.drew = w40 at HO_7 HO_8 HB hx231_0 hx231_1 hx232_0 hHeld ⊢
                    refine pA_ 0 71 (ml_ 19 1) rfl rfl HT_.out ?_
                    refine pA_ 1 72 (ml_ 19 3) rfl rfl HT_.out ?_
                    refine pA_ 2 73 (ml_ 19 7) rfl rfl HT_.out ?_
                    refine pA_ 3 74 (ml_ 19 15) rfl rfl HT_.out ?_
                    refine pA_ 4 75 (ml_ 19 31) rfl rfl HT_.out ?_
                    refine pA_ 5 76 (ml_ 19 63) rfl rfl HT_.out ?_
                    refine pA_ 6 77 (ml_ 19 127) rfl rfl HT_.out ?_
                    refine pA_ 7 78 (ml_ 19 255) rfl rfl HT_.out ?_
                    refine pA_ 8 79 (ml_ 19 511) rfl rfl HT_.out ?_
                    refine pA_ 9 80 (ml_ 19 1023) rfl rfl HT_.out ?_
                    refine pA_ 11 82 (ml_ 19 3071) rfl rfl HT_.out ?_
                    refine pA_ 12 83 (ml_ 19 7167) rfl rfl HT_.out ?_
                    refine pA_ 13 84 (ml_ 19 15359) rfl rfl HT_.out ?_
                    refine t3_ 10 81 (ml_ 19 16383) rfl rfl HT_.out HW_.out hHeld ?_
                    refine t3_ 14 85 (ml_ 19 32767) rfl rfl HT_.out HW_.out hHeld ?_
                    refine pA_ 15 86 (ml_ 19 65535) rfl rfl HT_.out ?_
                    refine pA_ 16 87 (ml_ 19 131071) rfl rfl HT_.out ?_
                    refine pA_ 17 88 (ml_ 19 262143) rfl rfl HT_.out ?_
                    refine pA_ 18 70 (ml_ 19 524287) rfl rfl HT_.out ?_
                    refine done_ (done_of HT_.out (by kernel_rfl)) ?_
                    try go_wp2
                    have n0_ := Aside0.mk (Kd.R_drew HO_7.out)
                    have n1_ := Aside0.mk (Kd.R_drew HO_8.out)
                    have n2_ := Aside0.mk (below_drew1 HB.out)
                    clear HO_7
                    clear HO_8
                    clear HB
                    have HO_7 := n0_
                    have HO_8 := n1_
                    have HB := n2_
                    clear n0_ n1_ n2_
                    have p235 : 0 ≤ (x9_1 : Int) := of_decide_eq_true (by first | (with_reducible assumption) | assumption)
                    have q235 : x9_1 < (t224.length : Int) := of_decide_eq_true (by first | (with_reducible assumption) | assumption)
                    obtain ⟨ad235, e235, hx235_0⟩ := Kd.at_int (Kd.R_reads' HO_7.out).2.2 x9_1 p235 q235
                    obtain rfl : ad227 = ad235 := (by injection e235)
                    replace p235 := eq_true p235
                    replace q235 := eq_true q235
                    have p236 : 0 ≤ ((ji36) : Int) := of_decide_eq_true (by first | (with_reducible assumption) | assumption)
                    have q236 : (ji36) < (t224.length : Int) := of_decide_eq_true (by first | (with_reducible assumption) | assumption)
                    obtain ⟨ad236, e236, hx236_0⟩ := Kd.at_int (Kd.R_reads' HO_7.out).2.2 (ji36) p236 q236
                    obtain rfl : ad227 = ad236 := (by injection e236)
                    replace p236 := eq_true p236
                    replace q236 := eq_true q236
                    refine start_ (n := 15) (S := fun w' => w'.cell? (ad227.add (x9_1).toNat) = some (.int .i64 (rd t224 x9_1)) ∧ w'.cell? (ad227.add ((ji36)).toNat) = some (.int .i64 (rd t224 (ji36)))) (ds := [12, 13]) (ml_ 15 0) (by kernel_rfl) rfl rfl ⟨hx235_0, hx236_0⟩ (fun hHeld => ?_); refine with_tabW caravanref1_Mix.tab13 caravanref1_Mix.bits13 (fun HT_ HW_ => ?_)
                    generalize w40.drew = w42 at HO_7 HO_8 HB hx235_0 hx236_0 hHeld ⊢
                    refine pA_ 0 53 (ml_ 15 1) rfl rfl HT_.out ?_
                    refine pA_ 1 54 (ml_ 15 3) rfl rfl HT_.out ?_
                    refine pA_ 2 55 (ml_ 15 7) rfl rfl HT_.out ?_
                    refine pA_ 3 56 (ml_ 15 15) rfl rfl HT_.out ?_
                    refine pA_ 5 58 (ml_ 15 47) rfl rfl HT_.out ?_
                    refine pA_ 6 59 (ml_ 15 111) rfl rfl HT_.out ?_
                    refine pA_ 7 60 (ml_ 15 239) rfl rfl HT_.out ?_
                    refine pA_ 8 61 (ml_ 15 495) rfl rfl HT_.out ?_
                    refine t2_ 4 57 (ml_ 15 511) rfl rfl HT_.out HW_.out hHeld ?_
                    refine t2_ 9 62 (ml_ 15 1023) rfl rfl HT_.out HW_.out hHeld ?_
                    refine pA_ 10 63 (ml_ 15 2047) rfl rfl HT_.out ?_
                    refine pA_ 11 64 (ml_ 15 4095) rfl rfl HT_.out ?_
                    refine last_ (i := 12) (N := some 65) (ml_ 15 8191) rfl rfl (one_of HT_.out (by kernel_rfl)) (by decide) (fun K hK => ?_)
                    refine value_ (w1 := ?_) (v := ?_) (by rfl) rfl ?_ ?_
                    rotate_left 2
                    ·go_simp
                     constructor
                     ·rfl
                     ·rfl
                    refine hK.out _ _ ?_
                    clear hK K
                    refine nA_ 65 ?_
                    refine last_ (i := 13) (N := some 66) (ml_ 15 16383) rfl rfl (one_of HT_.out (by kernel_rfl)) (by decide) (fun K hK => ?_)
                    refine Kd.R_append_step k31 (w0 := w) w.heap.size (by rfl) (.tmp 53) (.tmp 65) 23 31 (.agg #[(.int .i64 0), (.int .i64 0)]) 16 rfl Tryd.underlying23 info31 rfl (by decide) (by omega) (.slice (some ad231) x8_1.length co41) x8_1 (⟨rd t224 x9_1, wrap64 ((rd t224 (ji36)) - 1)⟩ : S31) [.int .i64 (rd t224 x9_1), .int .i64 (wrap64 ((rd t224 (ji36)) - 1))] (fun _ => True) (fun _ => False) rfl rfl ?aP (fun _ hk => hk.elim) ?aF ?aO ?aB ?aS ?aL ?_
                    (case aP => exact k31_mkM _ _ _ (⟨rd t224 x9_1, wrap64 ((rd t224 (ji36)) - 1)⟩ : S31))
                    (case aB => exact (qdb35_ HB.out))
                    (case aF => exact (fun _ _ => trivial))
                    (case aO => exact (q8524_ HO_8.out))
                    (case aS => exact (below_size (qdb35_ HB.out)))
                    (case aL => have := LMc39.out; omega)
                    intro v238 w43 ho hb hg hat
                    rw [← Ny237.out] at ho
                    have n0_ := Aside0.mk (Kd.R_over' (q8524_ HO_7.out) (Kd.R_typed (q8524_ HO_8.out)) (by decide) hg)
                    have n1_ := Aside0.mk (hb)
                    have n2_ := Aside0.mk (ho)
                    clear HO_7
                    clear HB
                    clear HO_8
                    have HO_7 := n0_
                    have HB := n1_
                    have HO239 := n2_
                    clear n0_ n1_ n2_
                    clear ho hb hg hat
                    refine hK.out _ _ ?_
                    clear hK K
                    refine nA_ 66 ?_
                    refine pA_ 14 8 (ml_ 15 32767) rfl rfl HT_.out ?_
                    refine done_ (done_of HT_.out (by kernel_rfl)) ?_
                    try go_wp2
                    go_roundg kj14
                    case measure => have := HK1.out; have := HJ10.out; have := HJ14.out; omega
                    case rel => exact ⟨(y237), (ji36), (by first | rfl | (simp; done) | (simp only [← hji36] <;> (first | rfl | simp)) | (simp [*]; done)), H', ⟨by have := HK1.out; have := HJ10.out; have := HJ14.out; omega⟩, ⟨by (with_reducible repeat (first | apply Kd.R_alloc | apply Kd.R_drewN | apply Kd.R_drew)); exact HO_7.out⟩, ⟨by (with_reducible repeat (first | apply Kd.R_alloc | apply Kd.R_drewN | apply Kd.R_drew)); exact HO239.out⟩, ⟨(qdb35_ HB.out)⟩⟩
                   ·rw [if_neg c39] at H
                    exact absurd H (by simp)
                  ·rw [if_neg c38] at H
                   exact absurd H (by simp)
                 ·rw [if_neg c37] at H
                  exact absurd H (by simp)
               ·rw [if_neg c26] at H
                exact absurd H (by simp)
              ·rw [if_neg c25] at H
               exact absurd H (by simp)
             ·rw [if_neg c24] at H
              exact absurd H (by simp)
            ·rw [if_neg c23] at H
             exact absurd H (by simp)
           ·rw [if_neg c21] at H
            have c21b0 : decide (0 < (x8_1.length : Int)) = false := decide_eq_false c21
            have c21b1 : decide (0 < x8_1.length) = false := decide_eq_false (by omega)
            clear c21
            by_cases c44 : 0 ≤ x9_1
            ·rw [if_pos c44] at H
             have c44b0 : decide (0 ≤ x9_1) = true := decide_eq_true c44
             clear c44
             by_cases c45 : x9_1 < (t224.length : Int)
             ·rw [if_pos c45] at H
              have c45b0 : decide (x9_1 < (t224.length : Int)) = true := decide_eq_true c45
              clear c45
              obtain ⟨ji46, hji46⟩ : ∃ j_ : Int, (wrap64 (x9_1 + 1)) = j_ := ⟨_, rfl⟩
              replace H : (if 0 ≤ (ji46) then (if (ji46) < (t224.length : Int) then (if x8_1.length < 8796093022208 then (caravanref1_Mix.l0 kj14 a0 l1 l2 t224 (x8_1 ++ [(⟨rd t224 x9_1, wrap64 ((rd t224 (ji46)) - 1)⟩ : S31)]) ji46) else (none)) else (none)) else (none)) = some r := by first | (rw [hji46] at H; exact H) | (simp only [hji46] at H ⊢; exact H)
              (try rw [hji46] at c6b0)
              have hji46w : (IntKind.i64.wrap (x9_1 + 1)) = ji46 := (i64_w _).trans hji46
              by_cases c47 : 0 ≤ (ji46)
              ·rw [if_pos c47] at H
               have c47b0 : decide (0 ≤ (ji46)) = true := decide_eq_true c47
               clear c47
               by_cases c48 : (ji46) < (t224.length : Int)
               ·rw [if_pos c48] at H
                have c48b0 : decide ((ji46) < (t224.length : Int)) = true := decide_eq_true c48
                clear c48
                by_cases c49 : x8_1.length < 8796093022208
                ·rw [if_pos c49] at H
                 have LMc49 := Aside0.mk c49
                 clear c49
                 obtain ⟨y242, hy242⟩ : ∃ y_ : List (S31), y_ = (x8_1 ++ [(⟨rd t224 x9_1, wrap64 ((rd t224 (ji46)) - 1)⟩ : S31)]) := ⟨_, rfl⟩
                 replace H : (caravanref1_Mix.l0 kj14 a0 l1 l2 t224 y242 ji46) = some r := by first | (rw [hy242]; with_reducible exact H) | (have H2_ := (Option.bind_some _ _).symm.trans H; rw [hy242]; with_reducible exact H2_) | (have H2_ := (Option.bind_some _ _).symm.trans H; with_reducible exact H2_) | with_reducible exact H | (rw [hy242]; exact H) | exact H
                 have Ny242 := Aside0.mk hy242
                 clear hy242
                 have H' := Aside0.mk H
                 clear H
                 try go_wp2
                 have n0_ := Aside0.mk (Kd.R_drew HO_7.out)
                 have n1_ := Aside0.mk (Kd.R_drew HO_8.out)
                 have n2_ := Aside0.mk (below_drew1 HB.out)
                 clear HO_7
                 clear HO_8
                 clear HB
                 have HO_7 := n0_
                 have HO_8 := n1_
                 have HB := n2_
                 clear n0_ n1_ n2_
                 obtain ⟨Ao51, co51, eo51⟩ := Kd.R_slice HO_8.out
                 (first | subst eo51 | (injection eo51 with f1_ f2_ f3_; have f4_ := f1_.symm; have f5_ := f3_.symm; clear f1_ f2_ f3_; subst f4_; subst f5_))
                 refine start_ (n := 19) (S := fun w' => True) (ds := []) (ml_ 19 0) (by kernel_rfl) rfl rfl trivial (fun hHeld => ?_); refine with_tabW caravanref1_Mix.tab15 caravanref1_Mix.bits15 (fun HT_ HW_ => ?_)
                 generalize wc.drew = w50 at HO_7 HO_8 HB hHeld ⊢
                 refine pA_ 0 71 (ml_ 19 1) rfl rfl HT_.out ?_
                 refine pA_ 1 72 (ml_ 19 3) rfl rfl HT_.out ?_
                 refine pA_ 2 73 (ml_ 19 7) rfl rfl HT_.out ?_
                 refine pA_ 3 74 (ml_ 19 15) rfl rfl HT_.out ?_
                 refine pU_ 4 75 (ml_ 19 31) rfl rfl HT_.out ?_
                 refine pU_ 5 76 (ml_ 19 63) rfl rfl HT_.out ?_
                 refine pU_ 6 77 (ml_ 19 127) rfl rfl HT_.out ?_
                 refine pU_ 7 78 (ml_ 19 255) rfl rfl HT_.out ?_
                 refine pU_ 8 79 (ml_ 19 511) rfl rfl HT_.out ?_
                 refine pU_ 9 80 (ml_ 19 1023) rfl rfl HT_.out ?_
                 refine pU_ 10 81 (ml_ 19 2047) rfl rfl HT_.out ?_
                 refine pU_ 11 82 (ml_ 19 4095) rfl rfl HT_.out ?_
                 refine pU_ 12 83 (ml_ 19 8191) rfl rfl HT_.out ?_
                 refine pU_ 13 84 (ml_ 19 16383) rfl rfl HT_.out ?_
                 refine pU_ 14 85 (ml_ 19 32767) rfl rfl HT_.out ?_
                 refine pU_ 15 86 (ml_ 19 65535) rfl rfl HT_.out ?_
                 refine pU_ 16 87 (ml_ 19 131071) rfl rfl HT_.out ?_
                 refine pA_ 17 88 (ml_ 19 262143) rfl rfl HT_.out ?_
                 refine pA_ 18 70 (ml_ 19 524287) rfl rfl HT_.out ?_
                 refine done_ (done_of HT_.out (by kernel_rfl)) ?_
                 try go_wp2
                 have n0_ := Aside0.mk (Kd.R_drew HO_7.out)
                 have n1_ := Aside0.mk (Kd.R_drew HO_8.out)
                 have n2_ := Aside0.mk (below_drew1 HB.out)
                 clear HO_7
                 clear HO_8
                 clear HB
                 have HO_7 := n0_
                 have HO_8 := n1_
                 have HB := n2_
                 clear n0_ n1_ n2_
                 have p240 : 0 ≤ (x9_1 : Int) := of_decide_eq_true (by first | (with_reducible assumption) | assumption)
                 have q240 : x9_1 < (t224.length : Int) := of_decide_eq_true (by first | (with_reducible assumption) | assumption)
                 obtain ⟨ad240, e240, hx240_0⟩ := Kd.at_int (Kd.R_reads' HO_7.out).2.2 x9_1 p240 q240
                 obtain rfl : ad227 = ad240 := (by injection e240)
                 replace p240 := eq_true p240
                 replace q240 := eq_true q240
                 have p241 : 0 ≤ ((ji46) : Int) := of_decide_eq_true (by first | (with_reducible assumption) | assumption)
                 have q241 : (ji46) < (t224.length : Int) := of_decide_eq_true (by first | (with_reducible assumption) | assumption)
                 obtain ⟨ad241, e241, hx241_0⟩ := Kd.at_int (Kd.R_reads' HO_7.out).2.2 (ji46) p241 q241
                 obtain rfl : ad227 = ad241 := (by injection e241)
                 replace p241 := eq_true p241
                 replace q241 := eq_true q241
                 refine start_ (n := 15) (S := fun w' => w'.cell? (ad227.add (x9_1).toNat) = some (.int .i64 (rd t224 x9_1)) ∧ w'.cell? (ad227.add ((ji46)).toNat) = some (.int .i64 (rd t224 (ji46)))) (ds := [12, 13]) (ml_ 15 0) (by kernel_rfl) rfl rfl ⟨hx240_0, hx241_0⟩ (fun hHeld => ?_); refine with_tabW caravanref1_Mix.tab13 caravanref1_Mix.bits13 (fun HT_ HW_ => ?_)
                 generalize w50.drew = w52 at HO_7 HO_8 HB hx240_0 hx241_0 hHeld ⊢
                 refine pA_ 0 53 (ml_ 15 1) rfl rfl HT_.out ?_
                 refine pA_ 1 54 (ml_ 15 3) rfl rfl HT_.out ?_
                 refine pA_ 2 55 (ml_ 15 7) rfl rfl HT_.out ?_
                 refine pA_ 3 56 (ml_ 15 15) rfl rfl HT_.out ?_
                 refine pA_ 5 58 (ml_ 15 47) rfl rfl HT_.out ?_
                 refine pA_ 6 59 (ml_ 15 111) rfl rfl HT_.out ?_
                 refine pA_ 7 60 (ml_ 15 239) rfl rfl HT_.out ?_
                 refine pA_ 8 61 (ml_ 15 495) rfl rfl HT_.out ?_
                 refine t2_ 4 57 (ml_ 15 511) rfl rfl HT_.out HW_.out hHeld ?_
                 refine t2_ 9 62 (ml_ 15 1023) rfl rfl HT_.out HW_.out hHeld ?_
                 refine pA_ 10 63 (ml_ 15 2047) rfl rfl HT_.out ?_
                 refine pA_ 11 64 (ml_ 15 4095) rfl rfl HT_.out ?_
                 refine last_ (i := 12) (N := some 65) (ml_ 15 8191) rfl rfl (one_of HT_.out (by kernel_rfl)) (by decide) (fun K hK => ?_)
                 refine value_ (w1 := ?_) (v := ?_) (by rfl) rfl ?_ ?_
                 rotate_left 2
                 ·go_simp
                  constructor
                  ·rfl
                  ·rfl
                 refine hK.out _ _ ?_
                 clear hK K
                 refine nA_ 65 ?_
                 refine last_ (i := 13) (N := some 66) (ml_ 15 16383) rfl rfl (one_of HT_.out (by kernel_rfl)) (by decide) (fun K hK => ?_)
                 refine Kd.R_append_step k31 (w0 := w) w.heap.size (by rfl) (.tmp 53) (.tmp 65) 23 31 (.agg #[(.int .i64 0), (.int .i64 0)]) 16 rfl Tryd.underlying23 info31 rfl (by decide) (by omega) (.slice Ao51 x8_1.length co51) x8_1 (⟨rd t224 x9_1, wrap64 ((rd t224 (ji46)) - 1)⟩ : S31) [.int .i64 (rd t224 x9_1), .int .i64 (wrap64 ((rd t224 (ji46)) - 1))] (fun _ => True) (fun _ => False) rfl rfl ?aP (fun _ hk => hk.elim) ?aF ?aO ?aB ?aS ?aL ?_
                 (case aP => exact k31_mkM _ _ _ (⟨rd t224 x9_1, wrap64 ((rd t224 (ji46)) - 1)⟩ : S31))
                 (case aB => exact (qdb35_ HB.out))
                 (case aF => exact (fun _ _ => trivial))
                 (case aO => exact (q8524_ HO_8.out))
                 (case aS => exact (below_size (qdb35_ HB.out)))
                 (case aL => have := LMc49.out; omega)
                 intro v243 w53 ho hb hg hat
                 rw [← Ny242.out] at ho
                 have n0_ := Aside0.mk (Kd.R_over' (q8524_ HO_7.out) (Kd.R_typed (q8524_ HO_8.out)) (by decide) hg)
                 have n1_ := Aside0.mk (hb)
                 have n2_ := Aside0.mk (ho)
                 clear HO_7
                 clear HB
                 clear HO_8
                 have HO_7 := n0_
                 have HB := n1_
                 have HO244 := n2_
                 clear n0_ n1_ n2_
                 clear ho hb hg hat
                 refine hK.out _ _ ?_
                 clear hK K
                 refine nA_ 66 ?_
                 refine pA_ 14 8 (ml_ 15 32767) rfl rfl HT_.out ?_
                 refine done_ (done_of HT_.out (by kernel_rfl)) ?_
                 try go_wp2
                 go_roundg kj14
                 case measure => have := HK1.out; have := HJ10.out; have := HJ14.out; omega
                 case rel => exact ⟨(y242), (ji46), (by first | rfl | (simp; done) | (simp only [← hji46] <;> (first | rfl | simp)) | (simp [*]; done)), H', ⟨by have := HK1.out; have := HJ10.out; have := HJ14.out; omega⟩, ⟨by (with_reducible repeat (first | apply Kd.R_alloc | apply Kd.R_drewN | apply Kd.R_drew)); exact HO_7.out⟩, ⟨by (with_reducible repeat (first | apply Kd.R_alloc | apply Kd.R_drewN | apply Kd.R_drew)); exact HO244.out⟩, ⟨(qdb35_ HB.out)⟩⟩
                ·rw [if_neg c49] at H
                 exact absurd H (by simp)
               ·rw [if_neg c48] at H
                exact absurd H (by simp)
              ·rw [if_neg c47] at H
               exact absurd H (by simp)
             ·rw [if_neg c45] at H
              exact absurd H (by simp)
            ·rw [if_neg c44] at H
             exact absurd H (by simp)
          ·replace c20 := Bool.eq_false_iff.mpr c20
           subst c20
           have H1 : (caravanref1_Mix.l0 kj14 a0 l1 l2 t224 x8_1 (wrap64 (x9_1 + 1))) = some r := by rw [if_neg (show ¬ (false = true) by decide)] at H; exact H
           clear H
           have H := H1
           clear H1
           have H' := Aside0.mk H
           clear H
           go_wp2
           go_roundg kj14
           case measure => have := HK1.out; have := HJ10.out; have := HJ14.out; omega
           case rel => exact ⟨(x8_1), (wrap64 (x9_1 + 1)), (by first | rfl | (simp; done) | (simp [*]; done)), H', ⟨by have := HK1.out; have := HJ10.out; have := HJ14.out; omega⟩, ⟨by (with_reducible repeat (first | apply Kd.R_alloc | apply Kd.R_drewN | apply Kd.R_drew)); exact HO_7.out⟩, ⟨by (with_reducible repeat (first | apply Kd.R_alloc | apply Kd.R_drewN | apply Kd.R_drew)); exact HO_8.out⟩, ⟨(qdb35_ HB.out)⟩⟩
     ·rw [if_neg c8] at H
      exact absurd H (by simp)
    ·rw [if_neg c7] at H
     exact absurd H (by simp)
   ·rw [if_neg c6] at H
    have c6b0 : decide ((wrap64 (x9_1 + 1)) < (t224.length : Int)) = false := decide_eq_false c6
    clear c6
    obtain rfl := Option.some.inj H
    obtain ⟨Ao54, co54, eo54⟩ := Kd.R_slice HO_7.out
    subst eo54
    go_wp2
    go_ret
    exact ⟨_, by first | rfl | (simp [errW_none, errW_some] <;> rfl) | (simp [*, errW_none, errW_some] <;> rfl), by (with_reducible repeat (first | apply Kd.R_alloc | apply Kd.R_drewN | apply Kd.R_drew)); exact HO_8.out, (qdb35_ HB.out)⟩

end Go.Proofs.YtnlakdpfkgjdaaaDoor.G
