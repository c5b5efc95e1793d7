/- What functions of the translation come to, and their calls' proofs; by a program of mine over the kit's print, with contracts given by hand beside. Conditions: where a plain function tells none, nothing is said. -/
import Derived.Test.YtjdpmjpfhcdcfaaG0
import Derived.Test.YtjdpmjpfhcdcfaaGKeys
import Derived.Test.YtjdpmjpfhcdcfaaGSpecs
import Derived.Test.YtjdpmjpfhcdcfaaGUpR
namespace Go.Proofs.Ytjdpmjpfhcdcfaa.G
open Go.RowKit Go.Proofs.YtjdpmjpfhcdcfaaW.PrintWords Go.Proofs.YtjdpmjpfhcdcfaaW.PrintLast Go.Proofs.YtjdpmjpfhcdcfaaW.PrintMore
attribute [local go_sem] max2_int min2_int max_two min_two max_three min_three max_four min_four   -- for this text's walks alone
set_option linter.unusedVariables false
set_option linter.unusedSimpArgs false

/-! ### caravanlaw4_Great: function 7 -/
mutual
def caravanlaw4_Great.l0 : Nat → List ByteArray → Int → Option (Bool)
 | 0, _, _ => none
 | k + 1, x0, x3 => if x3 < (x0.length : Int) then (caravanlaw4_Great.j1 k x0 x3 (decide (x3 < 130))) else (caravanlaw4_Great.j1 k x0 x3 false)
def caravanlaw4_Great.j1 : Nat → List ByteArray → Int → Bool → Option (Bool)
 | 0, _, _, _ => none
 | k + 1, x0, x3, x11 => if x11 = true then (if 0 ≤ x3 then (if x3 < (x0.length : Int) then (if ((rdOf ByteArray.empty x0 x3).size : Int) > 500 then (some true) else (caravanlaw4_Great.l0 k x0 (wrap64 (x3 + 1)))) else (none)) else (none)) else (some (decide ((x0.length : Int) > 120)))
end
def caravanlaw4_Great.f (k : Nat) (l0 : List ByteArray) : Option (Bool) := caravanlaw4_Great.l0 k l0 0
theorem caravanlaw4_Great.mono_l : ∀ k, (∀ y0 y1, LeO (caravanlaw4_Great.l0 k y0 y1) (caravanlaw4_Great.l0 (k + 1) y0 y1)) ∧ (∀ y0 y1 y2, LeO (caravanlaw4_Great.j1 k y0 y1 y2) (caravanlaw4_Great.j1 (k + 1) y0 y1 y2))
 | 0 => ⟨fun _ _ r h => by simp [caravanlaw4_Great.l0] at h, fun _ _ _ r h => by simp [caravanlaw4_Great.j1] at h⟩
 | k + 1 => by
  obtain ⟨ih0, ih1⟩ := caravanlaw4_Great.mono_l k
  refine ⟨?_, ?_⟩
  ·intro y0 y1
   unfold caravanlaw4_Great.l0
   repeat' first
   | (with_reducible exact ih0 _ _)
   | (with_reducible exact ih1 _ _ _)
   | (with_reducible exact LeO.refl _)
   | (with_reducible exact LeO.none _)
   | (with_reducible refine LeO.ite ?_ ?_)
   | (with_reducible refine LeO.bind ?_ (fun _ => ?_))
   | exact ih0 _ _
   | exact ih1 _ _ _
   | exact LeO.none _
   | refine LeO.ite ?_ ?_
   | refine LeO.bind ?_ (fun _ => ?_)
  ·intro y0 y1 y2
   unfold caravanlaw4_Great.j1
   repeat' first
   | (with_reducible exact ih0 _ _)
   | (with_reducible exact ih1 _ _ _)
   | (with_reducible exact LeO.refl _)
   | (with_reducible exact LeO.none _)
   | (with_reducible refine LeO.ite ?_ ?_)
   | (with_reducible refine LeO.bind ?_ (fun _ => ?_))
   | exact ih0 _ _
   | exact ih1 _ _ _
   | exact LeO.none _
   | refine LeO.ite ?_ ?_
   | refine LeO.bind ?_ (fun _ => ?_)
theorem caravanlaw4_Great.mono : ∀ a0 k, LeO (caravanlaw4_Great.f k a0) (caravanlaw4_Great.f (k + 1) a0) := by
 intro a0 k
 obtain ⟨ih0, ih1⟩ := caravanlaw4_Great.mono_l k
 unfold caravanlaw4_Great.f
 repeat' first
  | (with_reducible exact ih0 _ _)
  | (with_reducible exact ih1 _ _ _)
  | (with_reducible exact LeO.refl _)
  | (with_reducible exact LeO.none _)
  | (with_reducible refine LeO.ite ?_ ?_)
  | (with_reducible refine LeO.bind ?_ (fun _ => ?_))
  | exact ih0 _ _
  | exact ih1 _ _ _
  | exact LeO.none _
  | refine LeO.ite ?_ ?_
  | refine LeO.bind ?_ (fun _ => ?_)
set_option maxHeartbeats 8000000 in
set_option maxRecDepth 100000 in
theorem caravanlaw4_Great.calls (k : Nat) (A0 : Option Addr) (c0 : Nat) (l0 : List ByteArray) (r : Bool) (w : World) (hr0 : Kd.C Kd.string w A0 l0.length l0) (hc0 : l0.length ≤ c0) (h : caravanlaw4_Great.f k l0 = some r) :
 Calls Try.prog 7 #[.slice A0 l0.length c0] w fun e w' => e = .returned (.bool r) ∧ Drawn0 w w' := by
 have HR0 := Aside0.mk hr0
 have HC0 := Aside0.mk hc0
 clear hr0 hc0
 have H : (caravanlaw4_Great.l0 k l0 0) = some r := h
 clear h
 have H' := Aside0.mk H
 clear H
 go_enter Try.func7, Try.ntmps7
 go_wp2
 go_loopg [3] k (fun kq v3 w' => ∃ (x3_1 : Int), v3 = .int .i64 x3_1 ∧ Aside0 (caravanlaw4_Great.l0 kq l0 x3_1 = some r) ∧ Aside0 (kq ≤ k) ∧ Drawn0 w w')
 case atStart => exact ⟨(0), (by first | rfl | (simp; done) | (simp [*]; done)), H', ⟨Nat.le_refl _⟩, (by repeat (first | exact Drawn0.refl _ | apply Drawn0.step))⟩
 case round =>
  clear H'
  obtain ⟨x3_1, rfl, HA, HK1, ⟨m1, rfl⟩⟩ := hrel
  cases gk with
  | zero => exact absurd HA.out (by simp [caravanlaw4_Great.l0])
  | succ k1 =>
   have H := HA.out
   clear HA
   simp only [caravanlaw4_Great.l0] at H
   have HC2 := Aside0.mk H
   clear H
   go_upto_region 2 with (fail)
   go_cut [11] (fun v11 wc => ∃ (kq : Nat) (x11_1 : Bool), v11 = .bool x11_1 ∧ Aside0 (caravanlaw4_Great.j1 kq l0 x3_1 x11_1 = some r) ∧ Aside0 (kq ≤ k1) ∧ Drawn0 w wc)
   case first =>
    have H := HC2.out
    clear HC2
    by_cases c3 : x3_1 < (l0.length : Int)
    ·rw [if_pos c3] at H
     have c3b0 : decide (x3_1 < (l0.length : Int)) = true := decide_eq_true c3
     clear c3
     (first | rw [c3b0] | (simp only [i64_w, i32_w]; rw [c3b0]) | skip)
     have H' := Aside0.mk H
     clear H
     go_wp2
     go_meet
     case rel => exact ⟨_, (decide (x3_1 < 130)), (by first | rfl | (simp; done) | (simp [*]; done)), H', ⟨by have := HK1.out; first | omega | exact Nat.le_refl _⟩, (by repeat (first | exact Drawn0.refl _ | apply Drawn0.step))⟩
    ·rw [if_neg c3] at H
     have c3b0 : decide (x3_1 < (l0.length : Int)) = false := decide_eq_false c3
     clear c3
     (first | rw [c3b0] | (simp only [i64_w, i32_w]; rw [c3b0]) | skip)
     have H' := Aside0.mk H
     clear H
     go_wp2
     go_meet
     case rel => exact ⟨_, (false), (by first | rfl | (simp; done) | (simp [*]; done)), H', ⟨by have := HK1.out; first | omega | exact Nat.le_refl _⟩, (by repeat (first | exact Drawn0.refl _ | apply Drawn0.step))⟩
   case rest =>
    clear HC2
    try clear p2
    try clear c3
    try clear c3b0
    obtain ⟨kq, x11_1, rfl, HA, HJ1, ⟨mc1, rfl⟩⟩ := hcut
    cases kq with
    | zero => exact absurd HA.out (by simp [caravanlaw4_Great.j1])
    | succ kj1 =>
     have H := HA.out
     clear HA
     simp only [caravanlaw4_Great.j1] at H
     by_cases c4 : x11_1 = true
     ·subst c4
      have H1 : (if 0 ≤ x3_1 then (if x3_1 < (l0.length : Int) then (if ((rdOf ByteArray.empty l0 x3_1).size : Int) > 500 then (some true) else (caravanlaw4_Great.l0 kj1 l0 (wrap64 (x3_1 + 1)))) else (none)) else (none)) = some r := by rw [if_pos rfl] at H; exact H
      clear H
      have H := H1
      clear H1
      by_cases c5 : 0 ≤ x3_1
      ·rw [if_pos c5] at H
       have c5b0 : decide (0 ≤ x3_1) = true := decide_eq_true c5
       clear c5
       by_cases c6 : x3_1 < (l0.length : Int)
       ·rw [if_pos c6] at H
        have c6b0 : decide (x3_1 < (l0.length : Int)) = true := decide_eq_true c6
        clear c6
        by_cases c7 : ((rdOf ByteArray.empty l0 x3_1).size : Int) > 500
        ·rw [if_pos c7] at H
         have c7b0 : decide (500 < ((rdOf ByteArray.empty l0 x3_1).size : Int)) = true := decide_eq_true c7
         have c7b1 : decide (500 < (rdOf ByteArray.empty l0 x3_1).size) = true := decide_eq_true (by omega)
         clear c7
         obtain rfl := Option.some.inj H
         have p101 : 0 ≤ (x3_1 : Int) := of_decide_eq_true (by first | (with_reducible assumption) | assumption)
         have q101 : x3_1 < (l0.length : Int) := of_decide_eq_true (by first | (with_reducible assumption) | assumption)
         obtain ⟨ad101, e101, hx101_0⟩ := Kd.at_string HR0.out x3_1 p101 q101
         cases e101
         replace p101 := eq_true p101
         replace q101 := eq_true q101
         go_wp2
         go_ret
         exact ⟨by first | rfl | (simp; done) | (simp [*]; done), (by repeat (first | exact Drawn0.refl _ | apply Drawn0.step))⟩
        ·rw [if_neg c7] at H
         have c7b0 : decide (500 < ((rdOf ByteArray.empty l0 x3_1).size : Int)) = false := decide_eq_false c7
         have c7b1 : decide (500 < (rdOf ByteArray.empty l0 x3_1).size) = false := decide_eq_false (by omega)
         clear c7
         have H' := Aside0.mk H
         clear H
         have p101 : 0 ≤ (x3_1 : Int) := of_decide_eq_true (by first | (with_reducible assumption) | assumption)
         have q101 : x3_1 < (l0.length : Int) := of_decide_eq_true (by first | (with_reducible assumption) | assumption)
         obtain ⟨ad101, e101, hx101_0⟩ := Kd.at_string HR0.out x3_1 p101 q101
         cases e101
         replace p101 := eq_true p101
         replace q101 := eq_true q101
         go_wp2
         go_roundg kj1
         case measure => have := HK1.out; have := HJ1.out; omega
         case rel => exact ⟨(wrap64 (x3_1 + 1)), (by first | rfl | (simp; done) | (simp [*]; done)), H', ⟨by have := HK1.out; have := HJ1.out; omega⟩, (by repeat (first | exact Drawn0.refl _ | apply Drawn0.step))⟩
       ·rw [if_neg c6] at H
        exact absurd H (by simp)
      ·rw [if_neg c5] at H
       exact absurd H (by simp)
     ·replace c4 := Bool.eq_false_iff.mpr c4
      subst c4
      have H1 : (some (decide ((l0.length : Int) > 120))) = some r := by rw [if_neg (show ¬ (false = true) by decide)] at H; exact H
      clear H
      have H := H1
      clear H1
      obtain rfl := Option.some.inj H
      go_wp2
      go_ret
      exact ⟨by first | rfl | (simp; done) | (simp [*]; done), (by repeat (first | exact Drawn0.refl _ | apply Drawn0.step))⟩

/-! ### caravanlaw4_awake: function 8 -/
def caravanlaw4_awake.f  : Option (Bool) := (cmd_Keys.f (([(⟨#[109, 115, 101, 116]⟩ : ByteArray), (⟨#[97]⟩ : ByteArray), (⟨#[49]⟩ : ByteArray), (⟨#[98]⟩ : ByteArray), (⟨#[50]⟩ : ByteArray)] : List ByteArray))).bind fun t105 => (if (t105.length : Int) = 2 then (if 0 < (t105.length : Int) then (if (rdOf ByteArray.empty t105 0).toList = ([97] : List UInt8) then (if 1 < (t105.length : Int) then (some ((rdOf ByteArray.empty t105 1).toList == ([98] : List UInt8))) else (none)) else (some false)) else (none)) else (some false))
set_option maxHeartbeats 8000000 in
set_option maxRecDepth 100000 in
theorem caravanlaw4_awake.calls  (r : Bool) (w : World) (h : caravanlaw4_awake.f  = some r) :
 Calls Try.prog 8 #[] w fun e w' => e = .returned (.bool r) ∧ Below w.heap.size w w' := by
 have HB := Aside0.mk (Below.refl w.heap.size w)
 have H : ((cmd_Keys.f (([(⟨#[109, 115, 101, 116]⟩ : ByteArray), (⟨#[97]⟩ : ByteArray), (⟨#[49]⟩ : ByteArray), (⟨#[98]⟩ : ByteArray), (⟨#[50]⟩ : ByteArray)] : List ByteArray))).bind fun t105 => (if (t105.length : Int) = 2 then (if 0 < (t105.length : Int) then (if (rdOf ByteArray.empty t105 0).toList = ([97] : List UInt8) then (if 1 < (t105.length : Int) then (some ((rdOf ByteArray.empty t105 1).toList == ([98] : List UInt8))) else (none)) else (some false)) else (none)) else (some false))) = some r := h
 clear h
 obtain ⟨y102, hy102⟩ : ∃ y_ : List ByteArray, y_ = (([(⟨#[109, 115, 101, 116]⟩ : ByteArray), (⟨#[97]⟩ : ByteArray), (⟨#[49]⟩ : ByteArray), (⟨#[98]⟩ : ByteArray), (⟨#[50]⟩ : ByteArray)] : List ByteArray)) := ⟨_, rfl⟩
 replace H : ((cmd_Keys.f y102).bind fun t105 => (if (t105.length : Int) = 2 then (if 0 < (t105.length : Int) then (if (rdOf ByteArray.empty t105 0).toList = ([97] : List UInt8) then (if 1 < (t105.length : Int) then (some ((rdOf ByteArray.empty t105 1).toList == ([98] : List UInt8))) else (none)) else (some false)) else (none)) else (some false))) = some r := by first | (rw [hy102]; with_reducible exact H) | (have H2_ := (Option.bind_some _ _).symm.trans H; rw [hy102]; with_reducible exact H2_) | (have H2_ := (Option.bind_some _ _).symm.trans H; with_reducible exact H2_) | with_reducible exact H | (rw [hy102]; exact H) | exact H
 have Ny102 := Aside0.mk hy102
 clear hy102
 replace H := Option.bind_eq_some_iff.mp H
 obtain ⟨t105, A10, H⟩ := H
 replace H : (if (t105.length : Int) = 2 then (if 0 < (t105.length : Int) then (if (rdOf ByteArray.empty t105 0).toList = ([97] : List UInt8) then (if 1 < (t105.length : Int) then (some ((rdOf ByteArray.empty t105 1).toList == ([98] : List UInt8))) else (none)) else (some false)) else (none)) else (some false)) = some r := H
 have A1 := Aside0.mk A10
 clear A10
 by_cases c2 : (t105.length : Int) = 2
 ·rw [if_pos c2] at H
  have c2b0 : ((t105.length : Int) == 2) = true := beq_iff_eq.mpr c2
  have c2b1 : ((t105.length : Int) != 2) = false := bne_eq_false_iff_eq.mpr c2
  clear c2
  by_cases c3 : 0 < (t105.length : Int)
  ·rw [if_pos c3] at H
   have c3b0 : decide (0 < (t105.length : Int)) = true := decide_eq_true c3
   have c3b1 : decide (0 < t105.length) = true := decide_eq_true (by omega)
   clear c3
   by_cases c4 : (rdOf ByteArray.empty t105 0).toList = ([97] : List UInt8)
   ·rw [if_pos c4] at H
    have c4b0 : ((rdOf ByteArray.empty t105 0).toList == ([97] : List UInt8)) = true := beq_iff_eq.mpr c4
    have c4b1 : ((rdOf ByteArray.empty t105 0).toList != ([97] : List UInt8)) = false := bne_eq_false_iff_eq.mpr c4
    clear c4
    by_cases c5 : 1 < (t105.length : Int)
    ·rw [if_pos c5] at H
     have c5b0 : decide (1 < (t105.length : Int)) = true := decide_eq_true c5
     have c5b1 : decide (1 < t105.length) = true := decide_eq_true (by omega)
     clear c5
     obtain rfl := Option.some.inj H
     go_enter Try.func8, Try.ntmps8
     go_wp2_with (first | ((with_reducible refine gate_dst (N := 2) rfl ?_); refine Kd.R_lit Kd.string _ 9 ?hg (N := 2) ?hd (xs := ([(⟨#[109, 115, 101, 116]⟩ : ByteArray), (⟨#[97]⟩ : ByteArray), (⟨#[49]⟩ : ByteArray), (⟨#[98]⟩ : ByteArray), (⟨#[50]⟩ : ByteArray)] : List ByteArray)) (inner := [.string (⟨#[109, 115, 101, 116]⟩ : ByteArray), .string (⟨#[97]⟩ : ByteArray), .string (⟨#[49]⟩ : ByteArray), .string (⟨#[98]⟩ : ByteArray), .string (⟨#[50]⟩ : ByteArray)]) (ok := fun _ => True) (okp := fun _ => True) ?hr ?hp (fun _ hk => hk) trivial (Below.refl _ _) (Nat.le_refl _) (by simp) ?_; (case hd => rfl); (case hg => rfl); (case hr => first | (go_simp; done) | (go_simp; rfl)); (case hp => exact (Reps.one (show Kd.M Kd.string _ _ _ (⟨#[109, 115, 101, 116]⟩ : ByteArray) [.string (⟨#[109, 115, 101, 116]⟩ : ByteArray)] from rfl) (Reps.one (show Kd.M Kd.string _ _ _ (⟨#[97]⟩ : ByteArray) [.string (⟨#[97]⟩ : ByteArray)] from rfl) (Reps.one (show Kd.M Kd.string _ _ _ (⟨#[49]⟩ : ByteArray) [.string (⟨#[49]⟩ : ByteArray)] from rfl) (Reps.one (show Kd.M Kd.string _ _ _ (⟨#[98]⟩ : ByteArray) [.string (⟨#[98]⟩ : ByteArray)] from rfl) (Reps.one (show Kd.M Kd.string _ _ _ (⟨#[50]⟩ : ByteArray) [.string (⟨#[50]⟩ : ByteArray)] from rfl) (Reps.none _ _))))))); intro v103 w6 ho7 hb hg_ hnew_; clear hg_ hnew_; (first | rw [← Ny102.out] at ho7 | (simp only [Int.reduceToNat] at ho7; rw [← Ny102.out] at ho7)); have n0_ := Aside0.mk (Kd.R_lower ho7 (below_size (qdb35_ HB.out))); have n1_ := Aside0.mk (below_step (qdb35_ HB.out) hb); clear HB; have HO104 := n0_; have HB := n1_; clear n0_ n1_; clear hb ho7; obtain ⟨Ao8, co8, eo8⟩ := Kd.R_slice HO104.out; subst eo8) | ((with_reducible refine gate_callee (f := 14) rfl ?_); refine goesL_ (some 3) rfl rfl Try.func14 (by kernel_rfl) rfl #[.slice Ao8 y102.length co8] rfl qM_ ?_; (with_reducible refine (cmd_Keys.calls _ _ y102 t105 _ ?side1 ?side2 A1.out).mono ?_); (case side1 => exact qC_ ((Kd.R_reads' HO104.out).2.2)); (case side2 => exact (Kd.R_reads' HO104.out).2.1); rintro e w9 ⟨v106, rfl, ho0, hb⟩; refine ⟨_, rfl, ?_⟩; have n0_ := Aside0.mk (Kd.R_below (q8524_ HO104.out) hb); have n1_ := Aside0.mk (Kd.V_lower (Kd.V_mono (ok' := fun k_ => some k_ ≠ (.slice Ao8 y102.length co8 : Value).ownBlock) ho0 (fun k_ hk_ => (Kd.fresh' (Kd.R_lt (q8524_ HO104.out)) k_ hk_))) (below_size (qdb35_ HB.out))); have n2_ := Aside0.mk (below_step (qdb35_ HB.out) hb); clear HO104; clear HB; have HO104 := n0_; have HO107 := n1_; have HB := n2_; clear n0_ n1_ n2_; (try clear hb); (try clear hb2); (try clear hk); (try clear hi); (try clear ho0); obtain ⟨Ao10, co10, eo10⟩ := Kd.V_slice HO107.out; subst eo10; have p108 : 0 ≤ (0 : Int) := (by omega); have q108 : 0 < (t105.length : Int) := of_decide_eq_true (by first | (with_reducible assumption) | assumption); obtain ⟨ad108, e108, hx108_0⟩ := Kd.at_string (Kd.V_reads' HO107.out).2.2 0 p108 q108; cases e108; have qi108 : (0 < t105.length) = True := eq_true (by omega); (try rw [show ((0 : Int)).toNat = 0 from rfl] at hx108_0); (try rw [Addr.add_zero'] at hx108_0); replace p108 := eq_true p108; replace q108 := eq_true q108; have p109 : 0 ≤ (1 : Int) := (by omega); have q109 : 1 < (t105.length : Int) := of_decide_eq_true (by first | (with_reducible assumption) | assumption); obtain ⟨ad109, e109, hx109_0⟩ := Kd.at_string (Kd.V_reads' HO107.out).2.2 1 p109 q109; obtain rfl : ad108 = ad109 := (by injection e109); (try simp only [show (1 : Int).toNat = 1 from rfl, Nat.reduceMul, Nat.reduceEqDiff, Go.Addr.add, ↓reduceIte] at hx109_0); have qi109 : (1 < t105.length) = True := eq_true (by omega); (try rw [show ((1 : Int)).toNat = 1 from rfl] at hx109_0); replace p109 := eq_true p109; replace q109 := eq_true q109))
     go_ret
     exact ⟨by first | rfl | (simp [errW_none, errW_some] <;> rfl) | (simp [*, errW_none, errW_some] <;> rfl), (qdb35_ HB.out)⟩
    ·rw [if_neg c5] at H
     exact absurd H (by simp)
   ·rw [if_neg c4] at H
    have c4b0 : ((rdOf ByteArray.empty t105 0).toList == ([97] : List UInt8)) = false := beq_eq_false_iff_ne.mpr c4
    have c4b1 : ((rdOf ByteArray.empty t105 0).toList != ([97] : List UInt8)) = true := bne_iff_ne.mpr c4
    obtain rfl := Option.some.inj H
    go_enter Try.func8, Try.ntmps8
    go_wp2_with (first | ((with_reducible refine gate_dst (N := 2) rfl ?_); refine Kd.R_lit Kd.string _ 9 ?hg (N := 2) ?hd (xs := ([(⟨#[109, 115, 101, 116]⟩ : ByteArray), (⟨#[97]⟩ : ByteArray), (⟨#[49]⟩ : ByteArray), (⟨#[98]⟩ : ByteArray), (⟨#[50]⟩ : ByteArray)] : List ByteArray)) (inner := [.string (⟨#[109, 115, 101, 116]⟩ : ByteArray), .string (⟨#[97]⟩ : ByteArray), .string (⟨#[49]⟩ : ByteArray), .string (⟨#[98]⟩ : ByteArray), .string (⟨#[50]⟩ : ByteArray)]) (ok := fun _ => True) (okp := fun _ => True) ?hr ?hp (fun _ hk => hk) trivial (Below.refl _ _) (Nat.le_refl _) (by simp) ?_; (case hd => rfl); (case hg => rfl); (case hr => first | (go_simp; done) | (go_simp; rfl)); (case hp => exact (Reps.one (show Kd.M Kd.string _ _ _ (⟨#[109, 115, 101, 116]⟩ : ByteArray) [.string (⟨#[109, 115, 101, 116]⟩ : ByteArray)] from rfl) (Reps.one (show Kd.M Kd.string _ _ _ (⟨#[97]⟩ : ByteArray) [.string (⟨#[97]⟩ : ByteArray)] from rfl) (Reps.one (show Kd.M Kd.string _ _ _ (⟨#[49]⟩ : ByteArray) [.string (⟨#[49]⟩ : ByteArray)] from rfl) (Reps.one (show Kd.M Kd.string _ _ _ (⟨#[98]⟩ : ByteArray) [.string (⟨#[98]⟩ : ByteArray)] from rfl) (Reps.one (show Kd.M Kd.string _ _ _ (⟨#[50]⟩ : ByteArray) [.string (⟨#[50]⟩ : ByteArray)] from rfl) (Reps.none _ _))))))); intro v103 w11 ho12 hb hg_ hnew_; clear hg_ hnew_; (first | rw [← Ny102.out] at ho12 | (simp only [Int.reduceToNat] at ho12; rw [← Ny102.out] at ho12)); have n0_ := Aside0.mk (Kd.R_lower ho12 (below_size (qdb35_ HB.out))); have n1_ := Aside0.mk (below_step (qdb35_ HB.out) hb); clear HB; have HO104 := n0_; have HB := n1_; clear n0_ n1_; clear hb ho12; obtain ⟨Ao13, co13, eo13⟩ := Kd.R_slice HO104.out; subst eo13) | ((with_reducible refine gate_callee (f := 14) rfl ?_); refine goesL_ (some 3) rfl rfl Try.func14 (by kernel_rfl) rfl #[.slice Ao13 y102.length co13] rfl qM_ ?_; (with_reducible refine (cmd_Keys.calls _ _ y102 t105 _ ?side1 ?side2 A1.out).mono ?_); (case side1 => exact qC_ ((Kd.R_reads' HO104.out).2.2)); (case side2 => exact (Kd.R_reads' HO104.out).2.1); rintro e w14 ⟨v106, rfl, ho0, hb⟩; refine ⟨_, rfl, ?_⟩; have n0_ := Aside0.mk (Kd.R_below (q8524_ HO104.out) hb); have n1_ := Aside0.mk (Kd.V_lower (Kd.V_mono (ok' := fun k_ => some k_ ≠ (.slice Ao13 y102.length co13 : Value).ownBlock) ho0 (fun k_ hk_ => (Kd.fresh' (Kd.R_lt (q8524_ HO104.out)) k_ hk_))) (below_size (qdb35_ HB.out))); have n2_ := Aside0.mk (below_step (qdb35_ HB.out) hb); clear HO104; clear HB; have HO104 := n0_; have HO107 := n1_; have HB := n2_; clear n0_ n1_ n2_; (try clear hb); (try clear hb2); (try clear hk); (try clear hi); (try clear ho0); obtain ⟨Ao15, co15, eo15⟩ := Kd.V_slice HO107.out; subst eo15; have p108 : 0 ≤ (0 : Int) := (by omega); have q108 : 0 < (t105.length : Int) := of_decide_eq_true (by first | (with_reducible assumption) | assumption); obtain ⟨ad108, e108, hx108_0⟩ := Kd.at_string (Kd.V_reads' HO107.out).2.2 0 p108 q108; cases e108; have qi108 : (0 < t105.length) = True := eq_true (by omega); (try rw [show ((0 : Int)).toNat = 0 from rfl] at hx108_0); (try rw [Addr.add_zero'] at hx108_0); replace p108 := eq_true p108; replace q108 := eq_true q108))
    go_ret
    exact ⟨by first | rfl | (simp [errW_none, errW_some] <;> rfl) | (simp [*, errW_none, errW_some] <;> rfl), (qdb35_ HB.out)⟩
  ·rw [if_neg c3] at H
   exact absurd H (by simp)
 ·rw [if_neg c2] at H
  have c2b0 : ((t105.length : Int) == 2) = false := beq_eq_false_iff_ne.mpr c2
  have c2b1 : ((t105.length : Int) != 2) = true := bne_iff_ne.mpr c2
  obtain rfl := Option.some.inj H
  go_enter Try.func8, Try.ntmps8
  go_wp2_with (first | ((with_reducible refine gate_dst (N := 2) rfl ?_); refine Kd.R_lit Kd.string _ 9 ?hg (N := 2) ?hd (xs := ([(⟨#[109, 115, 101, 116]⟩ : ByteArray), (⟨#[97]⟩ : ByteArray), (⟨#[49]⟩ : ByteArray), (⟨#[98]⟩ : ByteArray), (⟨#[50]⟩ : ByteArray)] : List ByteArray)) (inner := [.string (⟨#[109, 115, 101, 116]⟩ : ByteArray), .string (⟨#[97]⟩ : ByteArray), .string (⟨#[49]⟩ : ByteArray), .string (⟨#[98]⟩ : ByteArray), .string (⟨#[50]⟩ : ByteArray)]) (ok := fun _ => True) (okp := fun _ => True) ?hr ?hp (fun _ hk => hk) trivial (Below.refl _ _) (Nat.le_refl _) (by simp) ?_; (case hd => rfl); (case hg => rfl); (case hr => first | (go_simp; done) | (go_simp; rfl)); (case hp => exact (Reps.one (show Kd.M Kd.string _ _ _ (⟨#[109, 115, 101, 116]⟩ : ByteArray) [.string (⟨#[109, 115, 101, 116]⟩ : ByteArray)] from rfl) (Reps.one (show Kd.M Kd.string _ _ _ (⟨#[97]⟩ : ByteArray) [.string (⟨#[97]⟩ : ByteArray)] from rfl) (Reps.one (show Kd.M Kd.string _ _ _ (⟨#[49]⟩ : ByteArray) [.string (⟨#[49]⟩ : ByteArray)] from rfl) (Reps.one (show Kd.M Kd.string _ _ _ (⟨#[98]⟩ : ByteArray) [.string (⟨#[98]⟩ : ByteArray)] from rfl) (Reps.one (show Kd.M Kd.string _ _ _ (⟨#[50]⟩ : ByteArray) [.string (⟨#[50]⟩ : ByteArray)] from rfl) (Reps.none _ _))))))); intro v103 w16 ho17 hb hg_ hnew_; clear hg_ hnew_; (first | rw [← Ny102.out] at ho17 | (simp only [Int.reduceToNat] at ho17; rw [← Ny102.out] at ho17)); have n0_ := Aside0.mk (Kd.R_lower ho17 (below_size (qdb35_ HB.out))); have n1_ := Aside0.mk (below_step (qdb35_ HB.out) hb); clear HB; have HO104 := n0_; have HB := n1_; clear n0_ n1_; clear hb ho17; obtain ⟨Ao18, co18, eo18⟩ := Kd.R_slice HO104.out; subst eo18) | ((with_reducible refine gate_callee (f := 14) rfl ?_); refine goesL_ (some 3) rfl rfl Try.func14 (by kernel_rfl) rfl #[.slice Ao18 y102.length co18] rfl qM_ ?_; (with_reducible refine (cmd_Keys.calls _ _ y102 t105 _ ?side1 ?side2 A1.out).mono ?_); (case side1 => exact qC_ ((Kd.R_reads' HO104.out).2.2)); (case side2 => exact (Kd.R_reads' HO104.out).2.1); rintro e w19 ⟨v106, rfl, ho0, hb⟩; refine ⟨_, rfl, ?_⟩; have n0_ := Aside0.mk (Kd.R_below (q8524_ HO104.out) hb); have n1_ := Aside0.mk (Kd.V_lower (Kd.V_mono (ok' := fun k_ => some k_ ≠ (.slice Ao18 y102.length co18 : Value).ownBlock) ho0 (fun k_ hk_ => (Kd.fresh' (Kd.R_lt (q8524_ HO104.out)) k_ hk_))) (below_size (qdb35_ HB.out))); have n2_ := Aside0.mk (below_step (qdb35_ HB.out) hb); clear HO104; clear HB; have HO104 := n0_; have HO107 := n1_; have HB := n2_; clear n0_ n1_ n2_; (try clear hb); (try clear hb2); (try clear hk); (try clear hi); (try clear ho0); obtain ⟨Ao20, co20, eo20⟩ := Kd.V_slice HO107.out; subst eo20))
  go_ret
  exact ⟨by first | rfl | (simp [errW_none, errW_some] <;> rfl) | (simp [*, errW_none, errW_some] <;> rfl), (qdb35_ HB.out)⟩

/-! ### caravanref1_Find: function 12 -/
def caravanref1_Find.l0 : Nat → ByteArray → List (S26) → Int → Option (ByteArray × Int × Int × Int × Int × Int × Bool × Bool)
 | 0, _, _, _ => none
 | k + 1, x0, x4, x5 => if x5 < (x4.length : Int) then (if 0 ≤ x5 then ((caravanref1_Upper.f x0).bind fun t115 => (if ((rd_T26 x4 x5).f0).toList = t115.toList then (some ((rd_T26 x4 x5).f0, (rd_T26 x4 x5).f1, (rd_T26 x4 x5).f2, (rd_T26 x4 x5).f3, (rd_T26 x4 x5).f4, (rd_T26 x4 x5).f5, (rd_T26 x4 x5).f6, true)) else (caravanref1_Find.l0 k x0 x4 (wrap64 (x5 + 1))))) else (none)) else (some ((⟨#[]⟩ : ByteArray), 0, 0, 0, 0, 0, false, false))
def caravanref1_Find.f (k : Nat) (a0 : ByteArray) : Option (ByteArray × Int × Int × Int × Int × Int × Bool × Bool) := if (a0.size : Int) > 20 then (some ((⟨#[]⟩ : ByteArray), 0, 0, 0, 0, 0, false, false)) else ((caravanref1_Specs.f).bind fun t111 => (caravanref1_Find.l0 k a0 t111 0))
theorem caravanref1_Find.mono_l : ∀ k, (∀ y0 y1 y2, LeO (caravanref1_Find.l0 k y0 y1 y2) (caravanref1_Find.l0 (k + 1) y0 y1 y2))
 | 0 => fun _ _ _ r h => by simp [caravanref1_Find.l0] at h
 | k + 1 => by
  have ih0 := caravanref1_Find.mono_l k
  ·intro y0 y1 y2
   unfold caravanref1_Find.l0
   repeat' first
   | (with_reducible exact ih0 _ _ _)
   | (with_reducible exact LeO.refl _)
   | (with_reducible exact LeO.none _)
   | (with_reducible refine LeO.ite ?_ ?_)
   | (with_reducible refine LeO.bind ?_ (fun _ => ?_))
   | exact ih0 _ _ _
   | exact LeO.none _
   | refine LeO.ite ?_ ?_
   | refine LeO.bind ?_ (fun _ => ?_)
theorem caravanref1_Find.mono : ∀ a0 k, LeO (caravanref1_Find.f k a0) (caravanref1_Find.f (k + 1) a0) := by
 intro a0 k
 have ih0 := caravanref1_Find.mono_l k
 unfold caravanref1_Find.f
 repeat' first
  | (with_reducible exact ih0 _ _ _)
  | (with_reducible exact LeO.refl _)
  | (with_reducible exact LeO.none _)
  | (with_reducible refine LeO.ite ?_ ?_)
  | (with_reducible refine LeO.bind ?_ (fun _ => ?_))
  | exact ih0 _ _ _
  | exact LeO.none _
  | refine LeO.ite ?_ ?_
  | refine LeO.bind ?_ (fun _ => ?_)
def caravanref1_Find.T7 : Bool × List (List Nat × List Nat) := (true, [([], []), ([], []), ([0, 1], [0, 1]), ([2], [2]), ([3], [3]), ([], []), ([5], [5]), ([4, 6], [4, 6])])
def caravanref1_Find.B7 : List Nat := [0, 0, 3, 7, 15, 0, 32, 127]
theorem caravanref1_Find.tab7 : rtab .any (opsOf Try.f12 7) = caravanref1_Find.T7 := by kernel_rfl
theorem caravanref1_Find.bits7 : waitsOk caravanref1_Find.T7.2 caravanref1_Find.B7 = true := by kernel_rfl
set_option maxHeartbeats 8000000 in
set_option maxRecDepth 100000 in
theorem caravanref1_Find.calls (k : Nat) (a0 : ByteArray) (r1 : ByteArray) (r2 : Int) (r3 : Int) (r4 : Int) (r5 : Int) (r6 : Int) (r7 : Bool) (r8 : Bool) (w : World) (h : caravanref1_Find.f k a0 = some (r1, r2, r3, r4, r5, r6, r7, r8)) :
 Calls Try.prog 12 #[.string a0] w fun e w' => e = .returned (.tuple #[.agg #[.string r1, .int .i64 r2, .int .i64 r3, .int .i64 r4, .int .i64 r5, .int .i64 r6, .bool r7], .bool r8]) ∧ Below w.heap.size w w' := by
 have hu26 := Try.underlying26
 have HB := Aside0.mk (Below.refl w.heap.size w)
 have H : (if (a0.size : Int) > 20 then (some ((⟨#[]⟩ : ByteArray), 0, 0, 0, 0, 0, false, false)) else ((caravanref1_Specs.f).bind fun t111 => (caravanref1_Find.l0 k a0 t111 0))) = some (r1, r2, r3, r4, r5, r6, r7, r8) := h
 clear h
 by_cases c2 : (a0.size : Int) > 20
 ·rw [if_pos c2] at H
  have c2b0 : decide (20 < (a0.size : Int)) = true := decide_eq_true c2
  have c2b1 : decide (20 < a0.size) = true := decide_eq_true (by omega)
  clear c2
  simp only [Option.some.injEq, Prod.mk.injEq] at H
  obtain ⟨rfl, rfl, rfl, rfl, rfl, rfl, rfl, rfl⟩ := H
  go_enter Try.func12, Try.ntmps12
  go_wp2_with (first | ((with_reducible refine gate_dst (N := 2) rfl ?_); refine box_event ?hg (N := 2) ?hd (cs := #[.string (⟨#[]⟩ : ByteArray), .int .i64 0, .int .i64 0, .int .i64 0, .int .i64 0, .int .i64 0, .bool false]) (t := 26) ?hr ?_; (case hd => rfl); (case hg => rfl); (case hr => first | (go_simp; done) | (go_simp; rfl)); intro gb110 hg w3 hbox hb; have n0_ := Aside0.mk (below_step (qdb35_ HB.out) hb); have n1_ := Aside0.mk (hbox); have n2_ := Aside0.mk ((by rw [hg]; exact (below_size (qdb35_ HB.out)) : w.heap.size ≤ gb110)); have n3_ := Aside0.mk ((by rw [hg]; exact (below_size (qdb35_ HB.out)) : w.heap.size ≤ gb110)); clear HB; have HB := n0_; have BK110 := n1_; have GW110 := n2_; have GE110 := n3_; clear n0_ n1_ n2_ n3_; clear hb hbox hg; have hcz4_0 : w3.cell? ⟨gb110, 0, none⟩ = some (.string (⟨#[]⟩ : ByteArray)) := (blk_cell BK110.out 0).trans rfl; have hcz4_1 : w3.cell? ⟨gb110, 1, none⟩ = some (.int .i64 0) := (blk_cell BK110.out 1).trans rfl; have hcz4_2 : w3.cell? ⟨gb110, 2, none⟩ = some (.int .i64 0) := (blk_cell BK110.out 2).trans rfl; have hcz4_3 : w3.cell? ⟨gb110, 3, none⟩ = some (.int .i64 0) := (blk_cell BK110.out 3).trans rfl; have hcz4_4 : w3.cell? ⟨gb110, 4, none⟩ = some (.int .i64 0) := (blk_cell BK110.out 4).trans rfl; have hcz4_5 : w3.cell? ⟨gb110, 5, none⟩ = some (.int .i64 0) := (blk_cell BK110.out 5).trans rfl; have hcz4_6 : w3.cell? ⟨gb110, 6, none⟩ = some (.bool false) := (blk_cell BK110.out 6).trans rfl; have hfz4_0 := blk_frozen BK110.out 0; have hfz4_1 := blk_frozen BK110.out 1; have hfz4_2 := blk_frozen BK110.out 2; have hfz4_3 := blk_frozen BK110.out 3; have hfz4_4 := blk_frozen BK110.out 4; have hfz4_5 := blk_frozen BK110.out 5; have hfz4_6 := blk_frozen BK110.out 6))
  refine bodyPost_ret (results_ct rfl _ _ gb110 26 #[.string (⟨#[]⟩ : ByteArray), .int .i64 0, .int .i64 0, .int .i64 0, .int .i64 0, .int .i64 0, .bool false] (0, 0) _ rfl (by (with_reducible repeat (first | refine blk_drewN ?_ _ | refine blk_drew ?_ | refine blk_alloc ?_ _)); refine blk_put (cs := #[.string (⟨#[]⟩ : ByteArray), .int .i64 0, .int .i64 0, .int .i64 0, .int .i64 0, .int .i64 0, .bool false]) ?_ 6 _ rfl; (with_reducible repeat (first | refine blk_drewN ?_ _ | refine blk_drew ?_ | refine blk_alloc ?_ _)); refine blk_put (cs := #[.string (⟨#[]⟩ : ByteArray), .int .i64 0, .int .i64 0, .int .i64 0, .int .i64 0, .int .i64 0, .bool false]) ?_ 5 _ rfl; (with_reducible repeat (first | refine blk_drewN ?_ _ | refine blk_drew ?_ | refine blk_alloc ?_ _)); refine blk_put (cs := #[.string (⟨#[]⟩ : ByteArray), .int .i64 0, .int .i64 0, .int .i64 0, .int .i64 0, .int .i64 0, .bool false]) ?_ 4 _ rfl; (with_reducible repeat (first | refine blk_drewN ?_ _ | refine blk_drew ?_ | refine blk_alloc ?_ _)); refine blk_put (cs := #[.string (⟨#[]⟩ : ByteArray), .int .i64 0, .int .i64 0, .int .i64 0, .int .i64 0, .int .i64 0, .bool false]) ?_ 3 _ rfl; (with_reducible repeat (first | refine blk_drewN ?_ _ | refine blk_drew ?_ | refine blk_alloc ?_ _)); refine blk_put (cs := #[.string (⟨#[]⟩ : ByteArray), .int .i64 0, .int .i64 0, .int .i64 0, .int .i64 0, .int .i64 0, .bool false]) ?_ 2 _ rfl; (with_reducible repeat (first | refine blk_drewN ?_ _ | refine blk_drew ?_ | refine blk_alloc ?_ _)); refine blk_put (cs := #[.string (⟨#[]⟩ : ByteArray), .int .i64 0, .int .i64 0, .int .i64 0, .int .i64 0, .int .i64 0, .bool false]) ?_ 1 _ rfl; (with_reducible repeat (first | refine blk_drewN ?_ _ | refine blk_drew ?_ | refine blk_alloc ?_ _)); refine blk_put (cs := #[.string (⟨#[]⟩ : ByteArray), .int .i64 0, .int .i64 0, .int .i64 0, .int .i64 0, .int .i64 0, .bool false]) ?_ 0 _ rfl; (with_reducible repeat (first | refine blk_drewN ?_ _ | refine blk_drew ?_ | refine blk_alloc ?_ _)); exact BK110.out) Try.underlying26 rfl (by kernel_rfl)) rfl ?_
  exact ⟨by first | rfl | (simp [errW_none, errW_some] <;> rfl) | (simp [*, errW_none, errW_some] <;> rfl), (qed14_ HB.out GE110.out)⟩
 ·rw [if_neg c2] at H
  have c2b0 : decide (20 < (a0.size : Int)) = false := decide_eq_false c2
  have c2b1 : decide (20 < a0.size) = false := decide_eq_false (by omega)
  clear c2
  replace H := Option.bind_eq_some_iff.mp H
  obtain ⟨t111, A50, H⟩ := H
  replace H : (caravanref1_Find.l0 k a0 t111 0) = some (r1, r2, r3, r4, r5, r6, r7, r8) := H
  have A5 := Aside0.mk A50
  clear A50
  have H' := Aside0.mk H
  clear H
  go_enter Try.func12, Try.ntmps12
  go_wp2_with (first | ((with_reducible refine gate_dst (N := 2) rfl ?_); refine box_event ?hg (N := 2) ?hd (cs := #[.string (⟨#[]⟩ : ByteArray), .int .i64 0, .int .i64 0, .int .i64 0, .int .i64 0, .int .i64 0, .bool false]) (t := 26) ?hr ?_; (case hd => rfl); (case hg => rfl); (case hr => first | (go_simp; done) | (go_simp; rfl)); intro gb110 hg w6 hbox hb; have n0_ := Aside0.mk (below_step (qdb35_ HB.out) hb); have n1_ := Aside0.mk (hbox); have n2_ := Aside0.mk ((by rw [hg]; exact (below_size (qdb35_ HB.out)) : w.heap.size ≤ gb110)); have n3_ := Aside0.mk ((by rw [hg]; exact (below_size (qdb35_ HB.out)) : w.heap.size ≤ gb110)); clear HB; have HB := n0_; have BK110 := n1_; have GW110 := n2_; have GE110 := n3_; clear n0_ n1_ n2_ n3_; clear hb hbox hg) | ((with_reducible refine gate_callee (f := 24) rfl ?_); refine goesL_ (some 10) rfl rfl Try.func24 (by kernel_rfl) rfl #[] rfl qM_ ?_; (with_reducible refine (caravanref1_Specs.calls  t111 _ A5.out).mono ?_); rintro e w7 ⟨v112, rfl, ho0, hb⟩; refine ⟨_, rfl, ?_⟩; have n0_ := Aside0.mk (Kd.R_lower (Kd.R_newB ho0 (g := gb110) (o := .cells #[.string (⟨#[]⟩ : ByteArray), .int .i64 0, .int .i64 0, .int .i64 0, .int .i64 0, .int .i64 0, .bool false] 26 (0, 0)) (q1466_ BK110.out)) (below_size (qed14_ HB.out GE110.out))); have n1_ := Aside0.mk (blk_below (g := gb110) (o := .cells #[.string (⟨#[]⟩ : ByteArray), .int .i64 0, .int .i64 0, .int .i64 0, .int .i64 0, .int .i64 0, .bool false] 26 (0, 0)) (q1466_ BK110.out) hb); have n2_ := Aside0.mk (below_step (qed14_ HB.out GE110.out) hb); clear BK110; clear HB; have HO113 := n0_; have BK110 := n1_; have HB := n2_; clear n0_ n1_ n2_; (try clear hb); (try clear hb2); (try clear hk); (try clear hi); (try clear ho0)))
  go_loopg [5] k (fun kq v5 w' => ∃ (x5_1 : Int) (x111000_1 : ByteArray) (x111001_1 : Int) (x111002_1 : Int) (x111003_1 : Int) (x111004_1 : Int) (x111005_1 : Int) (x111006_1 : Bool), v5 = .int .i64 x5_1 ∧ Aside0 (caravanref1_Find.l0 kq a0 t111 x5_1 = some (r1, r2, r3, r4, r5, r6, r7, r8)) ∧ Aside0 (kq ≤ k) ∧ Aside0 (Kd.R k26 26 w' w.heap.size (fun k_ => k_ ≠ gb110) v112 t111) ∧ Aside0 (w'.heap[gb110]? = some (.cells #[.string x111000_1, .int .i64 x111001_1, .int .i64 x111002_1, .int .i64 x111003_1, .int .i64 x111004_1, .int .i64 x111005_1, .bool x111006_1] 26 (0, 0))) ∧ Aside0 (Below w.heap.size w w'))
  case atStart => exact ⟨(0), ((⟨#[]⟩ : ByteArray)), (0), (0), (0), (0), (0), (false), (by first | rfl | (simp; done) | (simp [*]; done)), H', ⟨Nat.le_refl _⟩, ⟨by (with_reducible repeat (first | apply Kd.R_alloc | apply Kd.R_drewN | apply Kd.R_drew)); exact Kd.R_mono HO113.out (fun _ hk => hk.2)⟩, ⟨by (with_reducible repeat (first | refine blk_drewN ?_ _ | refine blk_drew ?_ | refine blk_alloc ?_ _)); exact BK110.out⟩, ⟨(qed14_ HB.out GE110.out)⟩⟩
  case round =>
   clear H'
   try clear c1
   try clear c2
   try clear c2b0
   try clear c2b1
   try clear p2
   try clear hcz4_0
   try clear hcz4_1
   try clear hcz4_2
   try clear hcz4_3
   try clear hcz4_4
   try clear hcz4_5
   try clear hcz4_6
   try clear hfz4_0
   try clear hfz4_1
   try clear hfz4_2
   try clear hfz4_3
   try clear hfz4_4
   try clear hfz4_5
   try clear hfz4_6
   obtain ⟨x5_1, x111000_1, x111001_1, x111002_1, x111003_1, x111004_1, x111005_1, x111006_1, rfl, HA, HK1, HO_4, BK110, HB⟩ := hrel
   cases gk with
   | zero => exact absurd HA.out (by simp [caravanref1_Find.l0])
   | succ k1 =>
    have H := HA.out
    clear HA
    simp only [caravanref1_Find.l0] at H
    by_cases c8 : x5_1 < (t111.length : Int)
    ·rw [if_pos c8] at H
     have c8b0 : decide (x5_1 < (t111.length : Int)) = true := decide_eq_true c8
     clear c8
     by_cases c9 : 0 ≤ x5_1
     ·rw [if_pos c9] at H
      have c9b0 : decide (0 ≤ x5_1) = true := decide_eq_true c9
      clear c9
      replace H := Option.bind_eq_some_iff.mp H
      obtain ⟨t115, A100, H⟩ := H
      replace H : (if ((rd_T26 t111 x5_1).f0).toList = t115.toList then (some ((rd_T26 t111 x5_1).f0, (rd_T26 t111 x5_1).f1, (rd_T26 t111 x5_1).f2, (rd_T26 t111 x5_1).f3, (rd_T26 t111 x5_1).f4, (rd_T26 t111 x5_1).f5, (rd_T26 t111 x5_1).f6, true)) else (caravanref1_Find.l0 k1 a0 t111 (wrap64 (x5_1 + 1)))) = some (r1, r2, r3, r4, r5, r6, r7, r8) := H
      have A10 := Aside0.mk A100
      clear A100
      by_cases c11 : ((rd_T26 t111 x5_1).f0).toList = t115.toList
      ·rw [if_pos c11] at H
       have c11b0 : (((rd_T26 t111 x5_1).f0).toList == t115.toList) = true := beq_iff_eq.mpr c11
       have c11b1 : (((rd_T26 t111 x5_1).f0).toList != t115.toList) = false := bne_eq_false_iff_eq.mpr c11
       clear c11
       simp only [Option.some.injEq, Prod.mk.injEq] at H
       obtain ⟨rfl, rfl, rfl, rfl, rfl, rfl, rfl, rfl⟩ := H
       obtain ⟨Ao12, co12, eo12⟩ := Kd.R_slice HO_4.out
       subst eo12
       try go_wp2
       have n0_ := Aside0.mk (Kd.R_drew HO_4.out)
       have n1_ := Aside0.mk (blk_drew BK110.out)
       have n2_ := Aside0.mk (below_drew1 HB.out)
       clear HO_4
       clear BK110
       clear HB
       have HO_4 := n0_
       have BK110 := n1_
       have HB := n2_
       clear n0_ n1_ n2_
       have p114 : 0 ≤ (x5_1 : Int) := of_decide_eq_true (by first | (with_reducible assumption) | assumption)
       have q114 : x5_1 < (t111.length : Int) := of_decide_eq_true (by first | (with_reducible assumption) | assumption)
       obtain ⟨ad114, e114, hx114_0, hx114_1, hx114_2, hx114_3, hx114_4, hx114_5, hx114_6⟩ := at_T26 (Kd.R_reads' HO_4.out).2.2 x5_1 p114 q114
       cases e114
       replace p114 := eq_true p114
       replace q114 := eq_true q114
       refine start_ (n := 8) (S := fun w' => w'.cell? (ad114.add ((x5_1).toNat * 7)) = some (.string ((rd_T26 t111 x5_1).f0)) ∧ w'.cell? ⟨(ad114.add ((x5_1).toNat * 7)).block, (ad114.add ((x5_1).toNat * 7)).off + 1, none⟩ = some (.int .i64 ((rd_T26 t111 x5_1).f1)) ∧ w'.cell? ⟨(ad114.add ((x5_1).toNat * 7)).block, (ad114.add ((x5_1).toNat * 7)).off + 2, none⟩ = some (.int .i64 ((rd_T26 t111 x5_1).f2)) ∧ w'.cell? ⟨(ad114.add ((x5_1).toNat * 7)).block, (ad114.add ((x5_1).toNat * 7)).off + 3, none⟩ = some (.int .i64 ((rd_T26 t111 x5_1).f3)) ∧ w'.cell? ⟨(ad114.add ((x5_1).toNat * 7)).block, (ad114.add ((x5_1).toNat * 7)).off + 4, none⟩ = some (.int .i64 ((rd_T26 t111 x5_1).f4)) ∧ w'.cell? ⟨(ad114.add ((x5_1).toNat * 7)).block, (ad114.add ((x5_1).toNat * 7)).off + 5, none⟩ = some (.int .i64 ((rd_T26 t111 x5_1).f5)) ∧ w'.cell? ⟨(ad114.add ((x5_1).toNat * 7)).block, (ad114.add ((x5_1).toNat * 7)).off + 6, none⟩ = some (.bool ((rd_T26 t111 x5_1).f6))) (ds := []) (ml_ 8 0) (by kernel_rfl) rfl rfl ⟨hx114_0, hx114_1, hx114_2, hx114_3, hx114_4, hx114_5, hx114_6⟩ (fun hHeld => ?_); refine with_tabW caravanref1_Find.tab7 caravanref1_Find.bits7 (fun HT_ HW_ => ?_)
       generalize wr.drew = w13 at HO_4 BK110 HB hx114_0 hx114_1 hx114_2 hx114_3 hx114_4 hx114_5 hx114_6 hHeld ⊢
       refine pA_ 0 17 (ml_ 8 1) rfl rfl HT_.out ?_
       refine pA_ 1 18 (ml_ 8 3) rfl rfl HT_.out ?_
       refine pA_ 2 19 (ml_ 8 7) rfl rfl HT_.out ?_
       refine pA_ 3 20 (ml_ 8 15) rfl rfl HT_.out ?_
       refine pA_ 5 22 (ml_ 8 47) rfl rfl HT_.out ?_
       refine t7_ 4 21 (ml_ 8 63) rfl rfl HT_.out HW_.out hHeld ?_
       refine one_ (i := 6) (N := some 23) (ml_ 8 127) rfl rfl (one_of HT_.out (by kernel_rfl)) (by decide) (fun K hK => ?_)
       refine goes_ Try.func25 (by kernel_rfl) rfl #[.string a0] (by rfl) rfl rfl qM_ ?_
       with_reducible refine (caravanref1_Upper.calls a0 t115 _ A10.out).mono ?_
       rintro e w14 ⟨rfl, hb⟩
       have HS0_ := (hb.cell (World.block_lt_of_cell? _ _ (hHeld.1))).trans (hHeld.1)
       have HS1_ := (hb.cell (World.block_lt_of_cell? _ _ (hHeld.2.1))).trans (hHeld.2.1)
       have HS2_ := (hb.cell (World.block_lt_of_cell? _ _ (hHeld.2.2.1))).trans (hHeld.2.2.1)
       have HS3_ := (hb.cell (World.block_lt_of_cell? _ _ (hHeld.2.2.2.1))).trans (hHeld.2.2.2.1)
       have HS4_ := (hb.cell (World.block_lt_of_cell? _ _ (hHeld.2.2.2.2.1))).trans (hHeld.2.2.2.2.1)
       have HS5_ := (hb.cell (World.block_lt_of_cell? _ _ (hHeld.2.2.2.2.2.1))).trans (hHeld.2.2.2.2.2.1)
       have HS6_ := (hb.cell (World.block_lt_of_cell? _ _ (hHeld.2.2.2.2.2.2))).trans (hHeld.2.2.2.2.2.2)
       refine ⟨_, rfl, ?_⟩
       have n0_ := Aside0.mk (Kd.R_below (q8524_ HO_4.out) hb)
       have n1_ := Aside0.mk (blk_below (g := gb110) (o := .cells #[.string x111000_1, .int .i64 x111001_1, .int .i64 x111002_1, .int .i64 x111003_1, .int .i64 x111004_1, .int .i64 x111005_1, .bool x111006_1] 26 (0, 0)) (q1466_ BK110.out) hb)
       have n2_ := Aside0.mk (below_step (qed14_ HB.out GE110.out) hb)
       clear HO_4
       clear BK110
       clear HB
       have HO_4 := n0_
       have BK110 := n1_
       have HB := n2_
       clear n0_ n1_ n2_
       (try clear hb)
       (try clear hb2)
       (try clear hk)
       (try clear hi)
       refine hK.out _ _ ⟨HS0_, HS1_, HS2_, HS3_, HS4_, HS5_, HS6_⟩ (fun hHeld => ?_)
       clear hK K
       refine nA_ 23 ?_
       refine pA_ 7 24 (ml_ 8 255) rfl rfl HT_.out ?_
       refine done_ (done_of HT_.out (by kernel_rfl)) ?_
       have p116 : 0 ≤ (x5_1 : Int) := of_decide_eq_true (by first | (with_reducible assumption) | assumption)
       have q116 : x5_1 < (t111.length : Int) := of_decide_eq_true (by first | (with_reducible assumption) | assumption)
       obtain ⟨ad116, e116, hx116_0, hx116_1, hx116_2, hx116_3, hx116_4, hx116_5, hx116_6⟩ := at_T26 (Kd.R_reads' HO_4.out).2.2 x5_1 p116 q116
       obtain rfl : ad114 = ad116 := (by injection e116)
       replace p116 := eq_true p116
       replace q116 := eq_true q116
       have hcz15_0 : w14.cell? ⟨gb110, 0, none⟩ = some (.string x111000_1) := (blk_cell BK110.out 0).trans rfl
       have hcz15_1 : w14.cell? ⟨gb110, 1, none⟩ = some (.int .i64 x111001_1) := (blk_cell BK110.out 1).trans rfl
       have hcz15_2 : w14.cell? ⟨gb110, 2, none⟩ = some (.int .i64 x111002_1) := (blk_cell BK110.out 2).trans rfl
       have hcz15_3 : w14.cell? ⟨gb110, 3, none⟩ = some (.int .i64 x111003_1) := (blk_cell BK110.out 3).trans rfl
       have hcz15_4 : w14.cell? ⟨gb110, 4, none⟩ = some (.int .i64 x111004_1) := (blk_cell BK110.out 4).trans rfl
       have hcz15_5 : w14.cell? ⟨gb110, 5, none⟩ = some (.int .i64 x111005_1) := (blk_cell BK110.out 5).trans rfl
       have hcz15_6 : w14.cell? ⟨gb110, 6, none⟩ = some (.bool x111006_1) := (blk_cell BK110.out 6).trans rfl
       have hfz15_0 := blk_frozen BK110.out 0
       have hfz15_1 := blk_frozen BK110.out 1
       have hfz15_2 := blk_frozen BK110.out 2
       have hfz15_3 := blk_frozen BK110.out 3
       have hfz15_4 := blk_frozen BK110.out 4
       have hfz15_5 := blk_frozen BK110.out 5
       have hfz15_6 := blk_frozen BK110.out 6
       try go_wp2
       refine bodyPost_ret (results_ct rfl _ _ gb110 26 #[.string ((rd_T26 t111 x5_1).f0), .int .i64 ((rd_T26 t111 x5_1).f1), .int .i64 ((rd_T26 t111 x5_1).f2), .int .i64 ((rd_T26 t111 x5_1).f3), .int .i64 ((rd_T26 t111 x5_1).f4), .int .i64 ((rd_T26 t111 x5_1).f5), .bool ((rd_T26 t111 x5_1).f6)] (0, 0) _ rfl (by (with_reducible repeat (first | refine blk_drewN ?_ _ | refine blk_drew ?_ | refine blk_alloc ?_ _)); refine blk_put (cs := #[.string ((rd_T26 t111 x5_1).f0), .int .i64 ((rd_T26 t111 x5_1).f1), .int .i64 ((rd_T26 t111 x5_1).f2), .int .i64 ((rd_T26 t111 x5_1).f3), .int .i64 ((rd_T26 t111 x5_1).f4), .int .i64 ((rd_T26 t111 x5_1).f5), .bool x111006_1]) ?_ 6 _ rfl; (with_reducible repeat (first | refine blk_drewN ?_ _ | refine blk_drew ?_ | refine blk_alloc ?_ _)); refine blk_put (cs := #[.string ((rd_T26 t111 x5_1).f0), .int .i64 ((rd_T26 t111 x5_1).f1), .int .i64 ((rd_T26 t111 x5_1).f2), .int .i64 ((rd_T26 t111 x5_1).f3), .int .i64 ((rd_T26 t111 x5_1).f4), .int .i64 x111005_1, .bool x111006_1]) ?_ 5 _ rfl; (with_reducible repeat (first | refine blk_drewN ?_ _ | refine blk_drew ?_ | refine blk_alloc ?_ _)); refine blk_put (cs := #[.string ((rd_T26 t111 x5_1).f0), .int .i64 ((rd_T26 t111 x5_1).f1), .int .i64 ((rd_T26 t111 x5_1).f2), .int .i64 ((rd_T26 t111 x5_1).f3), .int .i64 x111004_1, .int .i64 x111005_1, .bool x111006_1]) ?_ 4 _ rfl; (with_reducible repeat (first | refine blk_drewN ?_ _ | refine blk_drew ?_ | refine blk_alloc ?_ _)); refine blk_put (cs := #[.string ((rd_T26 t111 x5_1).f0), .int .i64 ((rd_T26 t111 x5_1).f1), .int .i64 ((rd_T26 t111 x5_1).f2), .int .i64 x111003_1, .int .i64 x111004_1, .int .i64 x111005_1, .bool x111006_1]) ?_ 3 _ rfl; (with_reducible repeat (first | refine blk_drewN ?_ _ | refine blk_drew ?_ | refine blk_alloc ?_ _)); refine blk_put (cs := #[.string ((rd_T26 t111 x5_1).f0), .int .i64 ((rd_T26 t111 x5_1).f1), .int .i64 x111002_1, .int .i64 x111003_1, .int .i64 x111004_1, .int .i64 x111005_1, .bool x111006_1]) ?_ 2 _ rfl; (with_reducible repeat (first | refine blk_drewN ?_ _ | refine blk_drew ?_ | refine blk_alloc ?_ _)); refine blk_put (cs := #[.string ((rd_T26 t111 x5_1).f0), .int .i64 x111001_1, .int .i64 x111002_1, .int .i64 x111003_1, .int .i64 x111004_1, .int .i64 x111005_1, .bool x111006_1]) ?_ 1 _ rfl; (with_reducible repeat (first | refine blk_drewN ?_ _ | refine blk_drew ?_ | refine blk_alloc ?_ _)); refine blk_put (cs := #[.string x111000_1, .int .i64 x111001_1, .int .i64 x111002_1, .int .i64 x111003_1, .int .i64 x111004_1, .int .i64 x111005_1, .bool x111006_1]) ?_ 0 _ rfl; (with_reducible repeat (first | refine blk_drewN ?_ _ | refine blk_drew ?_ | refine blk_alloc ?_ _)); exact BK110.out) Try.underlying26 rfl (by kernel_rfl)) rfl ?_
       exact ⟨by first | rfl | (simp [errW_none, errW_some] <;> rfl) | (simp [*, errW_none, errW_some] <;> rfl), (qed14_ HB.out GE110.out)⟩
      ·rw [if_neg c11] at H
       have c11b0 : (((rd_T26 t111 x5_1).f0).toList == t115.toList) = false := beq_eq_false_iff_ne.mpr c11
       have c11b1 : (((rd_T26 t111 x5_1).f0).toList != t115.toList) = true := bne_iff_ne.mpr c11
       have H' := Aside0.mk H
       clear H
       obtain ⟨Ao16, co16, eo16⟩ := Kd.R_slice HO_4.out
       subst eo16
       try go_wp2
       have n0_ := Aside0.mk (Kd.R_drew HO_4.out)
       have n1_ := Aside0.mk (blk_drew BK110.out)
       have n2_ := Aside0.mk (below_drew1 HB.out)
       clear HO_4
       clear BK110
       clear HB
       have HO_4 := n0_
       have BK110 := n1_
       have HB := n2_
       clear n0_ n1_ n2_
       have p114 : 0 ≤ (x5_1 : Int) := of_decide_eq_true (by first | (with_reducible assumption) | assumption)
       have q114 : x5_1 < (t111.length : Int) := of_decide_eq_true (by first | (with_reducible assumption) | assumption)
       obtain ⟨ad114, e114, hx114_0, hx114_1, hx114_2, hx114_3, hx114_4, hx114_5, hx114_6⟩ := at_T26 (Kd.R_reads' HO_4.out).2.2 x5_1 p114 q114
       cases e114
       replace p114 := eq_true p114
       replace q114 := eq_true q114
       refine start_ (n := 8) (S := fun w' => w'.cell? (ad114.add ((x5_1).toNat * 7)) = some (.string ((rd_T26 t111 x5_1).f0)) ∧ w'.cell? ⟨(ad114.add ((x5_1).toNat * 7)).block, (ad114.add ((x5_1).toNat * 7)).off + 1, none⟩ = some (.int .i64 ((rd_T26 t111 x5_1).f1)) ∧ w'.cell? ⟨(ad114.add ((x5_1).toNat * 7)).block, (ad114.add ((x5_1).toNat * 7)).off + 2, none⟩ = some (.int .i64 ((rd_T26 t111 x5_1).f2)) ∧ w'.cell? ⟨(ad114.add ((x5_1).toNat * 7)).block, (ad114.add ((x5_1).toNat * 7)).off + 3, none⟩ = some (.int .i64 ((rd_T26 t111 x5_1).f3)) ∧ w'.cell? ⟨(ad114.add ((x5_1).toNat * 7)).block, (ad114.add ((x5_1).toNat * 7)).off + 4, none⟩ = some (.int .i64 ((rd_T26 t111 x5_1).f4)) ∧ w'.cell? ⟨(ad114.add ((x5_1).toNat * 7)).block, (ad114.add ((x5_1).toNat * 7)).off + 5, none⟩ = some (.int .i64 ((rd_T26 t111 x5_1).f5)) ∧ w'.cell? ⟨(ad114.add ((x5_1).toNat * 7)).block, (ad114.add ((x5_1).toNat * 7)).off + 6, none⟩ = some (.bool ((rd_T26 t111 x5_1).f6))) (ds := []) (ml_ 8 0) (by kernel_rfl) rfl rfl ⟨hx114_0, hx114_1, hx114_2, hx114_3, hx114_4, hx114_5, hx114_6⟩ (fun hHeld => ?_); refine with_tabW caravanref1_Find.tab7 caravanref1_Find.bits7 (fun HT_ HW_ => ?_)
       generalize wr.drew = w17 at HO_4 BK110 HB hx114_0 hx114_1 hx114_2 hx114_3 hx114_4 hx114_5 hx114_6 hHeld ⊢
       refine pA_ 0 17 (ml_ 8 1) rfl rfl HT_.out ?_
       refine pA_ 1 18 (ml_ 8 3) rfl rfl HT_.out ?_
       refine pA_ 2 19 (ml_ 8 7) rfl rfl HT_.out ?_
       refine pA_ 3 20 (ml_ 8 15) rfl rfl HT_.out ?_
       refine pA_ 5 22 (ml_ 8 47) rfl rfl HT_.out ?_
       refine t7_ 4 21 (ml_ 8 63) rfl rfl HT_.out HW_.out hHeld ?_
       refine one_ (i := 6) (N := some 23) (ml_ 8 127) rfl rfl (one_of HT_.out (by kernel_rfl)) (by decide) (fun K hK => ?_)
       refine goes_ Try.func25 (by kernel_rfl) rfl #[.string a0] (by rfl) rfl rfl qM_ ?_
       with_reducible refine (caravanref1_Upper.calls a0 t115 _ A10.out).mono ?_
       rintro e w18 ⟨rfl, hb⟩
       have HS0_ := (hb.cell (World.block_lt_of_cell? _ _ (hHeld.1))).trans (hHeld.1)
       have HS1_ := (hb.cell (World.block_lt_of_cell? _ _ (hHeld.2.1))).trans (hHeld.2.1)
       have HS2_ := (hb.cell (World.block_lt_of_cell? _ _ (hHeld.2.2.1))).trans (hHeld.2.2.1)
       have HS3_ := (hb.cell (World.block_lt_of_cell? _ _ (hHeld.2.2.2.1))).trans (hHeld.2.2.2.1)
       have HS4_ := (hb.cell (World.block_lt_of_cell? _ _ (hHeld.2.2.2.2.1))).trans (hHeld.2.2.2.2.1)
       have HS5_ := (hb.cell (World.block_lt_of_cell? _ _ (hHeld.2.2.2.2.2.1))).trans (hHeld.2.2.2.2.2.1)
       have HS6_ := (hb.cell (World.block_lt_of_cell? _ _ (hHeld.2.2.2.2.2.2))).trans (hHeld.2.2.2.2.2.2)
       refine ⟨_, rfl, ?_⟩
       have n0_ := Aside0.mk (Kd.R_below (q8524_ HO_4.out) hb)
       have n1_ := Aside0.mk (blk_below (g := gb110) (o := .cells #[.string x111000_1, .int .i64 x111001_1, .int .i64 x111002_1, .int .i64 x111003_1, .int .i64 x111004_1, .int .i64 x111005_1, .bool x111006_1] 26 (0, 0)) (q1466_ BK110.out) hb)
       have n2_ := Aside0.mk (below_step (qed14_ HB.out GE110.out) hb)
       clear HO_4
       clear BK110
       clear HB
       have HO_4 := n0_
       have BK110 := n1_
       have HB := n2_
       clear n0_ n1_ n2_
       (try clear hb)
       (try clear hb2)
       (try clear hk)
       (try clear hi)
       refine hK.out _ _ ⟨HS0_, HS1_, HS2_, HS3_, HS4_, HS5_, HS6_⟩ (fun hHeld => ?_)
       clear hK K
       refine nA_ 23 ?_
       refine pA_ 7 24 (ml_ 8 255) rfl rfl HT_.out ?_
       refine done_ (done_of HT_.out (by kernel_rfl)) ?_
       try go_wp2
       go_roundg k1
       case measure => have := HK1.out; omega
       case rel => exact ⟨(wrap64 (x5_1 + 1)), (x111000_1), (x111001_1), (x111002_1), (x111003_1), (x111004_1), (x111005_1), (x111006_1), (by first | rfl | (simp; done) | (simp [*]; done)), H', ⟨by have := HK1.out; omega⟩, ⟨by (with_reducible repeat (first | apply Kd.R_alloc | apply Kd.R_drewN | apply Kd.R_drew)); exact HO_4.out⟩, ⟨by (with_reducible repeat (first | refine blk_drewN ?_ _ | refine blk_drew ?_ | refine blk_alloc ?_ _)); exact BK110.out⟩, ⟨(qed14_ HB.out GE110.out)⟩⟩
     ·rw [if_neg c9] at H
      exact absurd H (by simp)
    ·rw [if_neg c8] at H
     have c8b0 : decide (x5_1 < (t111.length : Int)) = false := decide_eq_false c8
     clear c8
     simp only [Option.some.injEq, Prod.mk.injEq] at H
     obtain ⟨rfl, rfl, rfl, rfl, rfl, rfl, rfl, rfl⟩ := H
     obtain ⟨Ao19, co19, eo19⟩ := Kd.R_slice HO_4.out
     subst eo19
     have hcz20_0 : wr.cell? ⟨gb110, 0, none⟩ = some (.string x111000_1) := (blk_cell BK110.out 0).trans rfl
     have hcz20_1 : wr.cell? ⟨gb110, 1, none⟩ = some (.int .i64 x111001_1) := (blk_cell BK110.out 1).trans rfl
     have hcz20_2 : wr.cell? ⟨gb110, 2, none⟩ = some (.int .i64 x111002_1) := (blk_cell BK110.out 2).trans rfl
     have hcz20_3 : wr.cell? ⟨gb110, 3, none⟩ = some (.int .i64 x111003_1) := (blk_cell BK110.out 3).trans rfl
     have hcz20_4 : wr.cell? ⟨gb110, 4, none⟩ = some (.int .i64 x111004_1) := (blk_cell BK110.out 4).trans rfl
     have hcz20_5 : wr.cell? ⟨gb110, 5, none⟩ = some (.int .i64 x111005_1) := (blk_cell BK110.out 5).trans rfl
     have hcz20_6 : wr.cell? ⟨gb110, 6, none⟩ = some (.bool x111006_1) := (blk_cell BK110.out 6).trans rfl
     have hfz20_0 := blk_frozen BK110.out 0
     have hfz20_1 := blk_frozen BK110.out 1
     have hfz20_2 := blk_frozen BK110.out 2
     have hfz20_3 := blk_frozen BK110.out 3
     have hfz20_4 := blk_frozen BK110.out 4
     have hfz20_5 := blk_frozen BK110.out 5
     have hfz20_6 := blk_frozen BK110.out 6
     go_wp2
     refine bodyPost_ret (results_ct rfl _ _ gb110 26 #[.string (⟨#[]⟩ : ByteArray), .int .i64 0, .int .i64 0, .int .i64 0, .int .i64 0, .int .i64 0, .bool false] (0, 0) _ rfl (by (with_reducible repeat (first | refine blk_drewN ?_ _ | refine blk_drew ?_ | refine blk_alloc ?_ _)); refine blk_put (cs := #[.string (⟨#[]⟩ : ByteArray), .int .i64 0, .int .i64 0, .int .i64 0, .int .i64 0, .int .i64 0, .bool x111006_1]) ?_ 6 _ rfl; (with_reducible repeat (first | refine blk_drewN ?_ _ | refine blk_drew ?_ | refine blk_alloc ?_ _)); refine blk_put (cs := #[.string (⟨#[]⟩ : ByteArray), .int .i64 0, .int .i64 0, .int .i64 0, .int .i64 0, .int .i64 x111005_1, .bool x111006_1]) ?_ 5 _ rfl; (with_reducible repeat (first | refine blk_drewN ?_ _ | refine blk_drew ?_ | refine blk_alloc ?_ _)); refine blk_put (cs := #[.string (⟨#[]⟩ : ByteArray), .int .i64 0, .int .i64 0, .int .i64 0, .int .i64 x111004_1, .int .i64 x111005_1, .bool x111006_1]) ?_ 4 _ rfl; (with_reducible repeat (first | refine blk_drewN ?_ _ | refine blk_drew ?_ | refine blk_alloc ?_ _)); refine blk_put (cs := #[.string (⟨#[]⟩ : ByteArray), .int .i64 0, .int .i64 0, .int .i64 x111003_1, .int .i64 x111004_1, .int .i64 x111005_1, .bool x111006_1]) ?_ 3 _ rfl; (with_reducible repeat (first | refine blk_drewN ?_ _ | refine blk_drew ?_ | refine blk_alloc ?_ _)); refine blk_put (cs := #[.string (⟨#[]⟩ : ByteArray), .int .i64 0, .int .i64 x111002_1, .int .i64 x111003_1, .int .i64 x111004_1, .int .i64 x111005_1, .bool x111006_1]) ?_ 2 _ rfl; (with_reducible repeat (first | refine blk_drewN ?_ _ | refine blk_drew ?_ | refine blk_alloc ?_ _)); refine blk_put (cs := #[.string (⟨#[]⟩ : ByteArray), .int .i64 x111001_1, .int .i64 x111002_1, .int .i64 x111003_1, .int .i64 x111004_1, .int .i64 x111005_1, .bool x111006_1]) ?_ 1 _ rfl; (with_reducible repeat (first | refine blk_drewN ?_ _ | refine blk_drew ?_ | refine blk_alloc ?_ _)); refine blk_put (cs := #[.string x111000_1, .int .i64 x111001_1, .int .i64 x111002_1, .int .i64 x111003_1, .int .i64 x111004_1, .int .i64 x111005_1, .bool x111006_1]) ?_ 0 _ rfl; (with_reducible repeat (first | refine blk_drewN ?_ _ | refine blk_drew ?_ | refine blk_alloc ?_ _)); exact BK110.out) Try.underlying26 rfl (by kernel_rfl)) rfl ?_
     exact ⟨by first | rfl | (simp [errW_none, errW_some] <;> rfl) | (simp [*, errW_none, errW_some] <;> rfl), (qed14_ HB.out GE110.out)⟩

/-! ### caravanref1_keys: function 21 -/
mutual
def caravanref1_keys.j0 : Nat → List ByteArray → List ByteArray → Int → ByteArray → Int → Int → Int → Int → Int → Bool → Option (List ByteArray)
 | 0, _, _, _, _, _, _, _, _, _, _ => none
 | k + 1, x1, x5, x6, x118000, x118001, x118002, x118003, x118004, x118005, x118006 => caravanref1_keys.l0 k x1 x5 x6 x118003 x118000 x118001 x118002 x118003 x118004 x118005 x118006
def caravanref1_keys.l0 : Nat → List ByteArray → List ByteArray → Int → Int → ByteArray → Int → Int → Int → Int → Int → Bool → Option (List ByteArray)
 | 0, _, _, _, _, _, _, _, _, _, _, _ => none
 | k + 1, x1, x5, x6, x7, x118000, x118001, x118002, x118003, x118004, x118005, x118006 => if x7 > 0 then (if x7 ≤ x6 then (if 0 ≤ x7 then (if x7 < (x1.length : Int) then (if x5.length < 8796093022208 then (caravanref1_keys.l0 k x1 (x5 ++ [rdOf ByteArray.empty x1 x7]) x6 (wrap64 (x7 + x118005)) x118000 x118001 x118002 x118003 x118004 x118005 x118006) else (none)) else (none)) else (none)) else (some x5)) else (some x5)
end
def caravanref1_keys.f (k : Nat) (a0_0 : ByteArray) (a0_1 : Int) (a0_2 : Int) (a0_3 : Int) (a0_4 : Int) (a0_5 : Int) (a0_6 : Bool) (l1 : List ByteArray) : Option (List ByteArray) := if a0_4 < 0 then (caravanref1_keys.j0 k l1 ([] : List ByteArray) (wrap64 ((l1.length : Int) + a0_4)) a0_0 a0_1 a0_2 a0_3 a0_4 a0_5 a0_6) else (caravanref1_keys.j0 k l1 ([] : List ByteArray) a0_4 a0_0 a0_1 a0_2 a0_3 a0_4 a0_5 a0_6)
theorem caravanref1_keys.mono_l : ∀ k, (∀ y0 y1 y2 y3 y4 y5 y6 y7 y8 y9, LeO (caravanref1_keys.j0 k y0 y1 y2 y3 y4 y5 y6 y7 y8 y9) (caravanref1_keys.j0 (k + 1) y0 y1 y2 y3 y4 y5 y6 y7 y8 y9)) ∧ (∀ y0 y1 y2 y3 y4 y5 y6 y7 y8 y9 y10, LeO (caravanref1_keys.l0 k y0 y1 y2 y3 y4 y5 y6 y7 y8 y9 y10) (caravanref1_keys.l0 (k + 1) y0 y1 y2 y3 y4 y5 y6 y7 y8 y9 y10))
 | 0 => ⟨fun _ _ _ _ _ _ _ _ _ _ r h => by simp [caravanref1_keys.j0] at h, fun _ _ _ _ _ _ _ _ _ _ _ r h => by simp [caravanref1_keys.l0] at h⟩
 | k + 1 => by
  obtain ⟨ih0, ih1⟩ := caravanref1_keys.mono_l k
  refine ⟨?_, ?_⟩
  ·intro y0 y1 y2 y3 y4 y5 y6 y7 y8 y9
   unfold caravanref1_keys.j0
   repeat' first
   | (with_reducible exact ih0 _ _ _ _ _ _ _ _ _ _)
   | (with_reducible exact ih1 _ _ _ _ _ _ _ _ _ _ _)
   | (with_reducible exact LeO.refl _)
   | (with_reducible exact LeO.none _)
   | (with_reducible refine LeO.ite ?_ ?_)
   | (with_reducible refine LeO.bind ?_ (fun _ => ?_))
   | exact ih0 _ _ _ _ _ _ _ _ _ _
   | exact ih1 _ _ _ _ _ _ _ _ _ _ _
   | exact LeO.none _
   | refine LeO.ite ?_ ?_
   | refine LeO.bind ?_ (fun _ => ?_)
  ·intro y0 y1 y2 y3 y4 y5 y6 y7 y8 y9 y10
   unfold caravanref1_keys.l0
   repeat' first
   | (with_reducible exact ih0 _ _ _ _ _ _ _ _ _ _)
   | (with_reducible exact ih1 _ _ _ _ _ _ _ _ _ _ _)
   | (with_reducible exact LeO.refl _)
   | (with_reducible exact LeO.none _)
   | (with_reducible refine LeO.ite ?_ ?_)
   | (with_reducible refine LeO.bind ?_ (fun _ => ?_))
   | exact ih0 _ _ _ _ _ _ _ _ _ _
   | exact ih1 _ _ _ _ _ _ _ _ _ _ _
   | exact LeO.none _
   | refine LeO.ite ?_ ?_
   | refine LeO.bind ?_ (fun _ => ?_)
theorem caravanref1_keys.mono : ∀ a0 a1 a2 a3 a4 a5 a6 a7 k, LeO (caravanref1_keys.f k a0 a1 a2 a3 a4 a5 a6 a7) (caravanref1_keys.f (k + 1) a0 a1 a2 a3 a4 a5 a6 a7) := by
 intro a0 a1 a2 a3 a4 a5 a6 a7 k
 obtain ⟨ih0, ih1⟩ := caravanref1_keys.mono_l k
 unfold caravanref1_keys.f
 repeat' first
  | (with_reducible exact ih0 _ _ _ _ _ _ _ _ _ _)
  | (with_reducible exact ih1 _ _ _ _ _ _ _ _ _ _ _)
  | (with_reducible exact LeO.refl _)
  | (with_reducible exact LeO.none _)
  | (with_reducible refine LeO.ite ?_ ?_)
  | (with_reducible refine LeO.bind ?_ (fun _ => ?_))
  | exact ih0 _ _ _ _ _ _ _ _ _ _
  | exact ih1 _ _ _ _ _ _ _ _ _ _ _
  | exact LeO.none _
  | refine LeO.ite ?_ ?_
  | refine LeO.bind ?_ (fun _ => ?_)
set_option maxHeartbeats 8000000 in
set_option maxRecDepth 100000 in
theorem caravanref1_keys.calls (k : Nat) (a0_0 : ByteArray) (a0_1 : Int) (a0_2 : Int) (a0_3 : Int) (a0_4 : Int) (a0_5 : Int) (a0_6 : Bool) (A1 : Option Addr) (c1 : Nat) (l1 : List ByteArray) (r : List ByteArray) (w : World) (hr1 : Kd.C Kd.string w A1 l1.length l1) (hc1 : l1.length ≤ c1) (h : caravanref1_keys.f k a0_0 a0_1 a0_2 a0_3 a0_4 a0_5 a0_6 l1 = some r) :
 Calls Try.prog 21 #[.agg #[.string a0_0, .int .i64 a0_1, .int .i64 a0_2, .int .i64 a0_3, .int .i64 a0_4, .int .i64 a0_5, .bool a0_6], .slice A1 l1.length c1] w fun e w' => ∃ v0_ : Value, e = .returned (v0_) ∧ Kd.R Kd.string 9 w' w.heap.size (fun _ => True) v0_ r ∧ Below w.heap.size w w' := by
 have hu26 := Try.underlying26
 have HR1 := Aside0.mk hr1
 have HC1 := Aside0.mk hc1
 clear hr1 hc1
 have HB := Aside0.mk (Below.refl w.heap.size w)
 have H : (if a0_4 < 0 then (caravanref1_keys.j0 k l1 ([] : List ByteArray) (wrap64 ((l1.length : Int) + a0_4)) a0_0 a0_1 a0_2 a0_3 a0_4 a0_5 a0_6) else (caravanref1_keys.j0 k l1 ([] : List ByteArray) a0_4 a0_0 a0_1 a0_2 a0_3 a0_4 a0_5 a0_6)) = some r := h
 clear h
 have HC3 := Aside0.mk H
 clear H
 go_enter Try.func21, Try.ntmps21
 go_upto_if 11 with (first | ((with_reducible refine gate_dst (N := 2) rfl ?_); refine box_event ?hg (N := 2) ?hd (cs := #[.string a0_0, .int .i64 a0_1, .int .i64 a0_2, .int .i64 a0_3, .int .i64 a0_4, .int .i64 a0_5, .bool a0_6]) (t := 26) ?hr ?_; (case hd => rfl); (case hg => rfl); (case hr => first | (go_simp; done) | (go_simp; rfl)); intro gb117 hg w4 hbox hb; have n0_ := Aside0.mk (below_step (qdb35_ HB.out) hb); have n1_ := Aside0.mk (hbox); have n2_ := Aside0.mk ((by rw [hg]; exact (below_size (qdb35_ HB.out)) : w.heap.size ≤ gb117)); have n3_ := Aside0.mk ((by rw [hg]; exact (below_size (qdb35_ HB.out)) : w.heap.size ≤ gb117)); clear HB; have HB := n0_; have BK117 := n1_; have GW117 := n2_; have GE117 := n3_; clear n0_ n1_ n2_ n3_; clear hb hbox hg; have hcz5_0 : w4.cell? ⟨gb117, 0, none⟩ = some (.string a0_0) := (blk_cell BK117.out 0).trans rfl; have hcz5_1 : w4.cell? ⟨gb117, 1, none⟩ = some (.int .i64 a0_1) := (blk_cell BK117.out 1).trans rfl; have hcz5_2 : w4.cell? ⟨gb117, 2, none⟩ = some (.int .i64 a0_2) := (blk_cell BK117.out 2).trans rfl; have hcz5_3 : w4.cell? ⟨gb117, 3, none⟩ = some (.int .i64 a0_3) := (blk_cell BK117.out 3).trans rfl; have hcz5_4 : w4.cell? ⟨gb117, 4, none⟩ = some (.int .i64 a0_4) := (blk_cell BK117.out 4).trans rfl; have hcz5_5 : w4.cell? ⟨gb117, 5, none⟩ = some (.int .i64 a0_5) := (blk_cell BK117.out 5).trans rfl; have hcz5_6 : w4.cell? ⟨gb117, 6, none⟩ = some (.bool a0_6) := (blk_cell BK117.out 6).trans rfl; have hfz5_0 := blk_frozen BK117.out 0; have hfz5_1 := blk_frozen BK117.out 1; have hfz5_2 := blk_frozen BK117.out 2; have hfz5_3 := blk_frozen BK117.out 3; have hfz5_4 := blk_frozen BK117.out 4; have hfz5_5 := blk_frozen BK117.out 5; have hfz5_6 := blk_frozen BK117.out 6))
 (try simp only [Act.put, List.setIfInBounds_toArray, List.set_cons_zero, List.set_cons_succ])
 go_cut [6] (fun v6 wc => ∃ (kq : Nat) (x6_2 : Int), v6 = .int .i64 x6_2 ∧ Aside0 (caravanref1_keys.j0 kq l1 ([] : List ByteArray) x6_2 a0_0 a0_1 a0_2 a0_3 a0_4 a0_5 a0_6 = some r) ∧ Aside0 (kq ≤ k) ∧ Aside0 (Kd.R Kd.string 9 wc w.heap.size (fun _ => True) (.slice none 0 0) ([] : List ByteArray)) ∧ Aside0 (wc.heap[gb117]? = some (.cells #[.string a0_0, .int .i64 a0_1, .int .i64 a0_2, .int .i64 a0_3, .int .i64 a0_4, .int .i64 a0_5, .bool a0_6] 26 (0, 0))) ∧ Aside0 (Below w.heap.size w wc))
 case first =>
  have H := HC3.out
  clear HC3
  by_cases c6 : a0_4 < 0
  ·rw [if_pos c6] at H
   have c6b0 : decide (a0_4 < 0) = true := decide_eq_true c6
   clear c6
   (first | rw [c6b0] | (simp only [i64_w, i32_w]; rw [c6b0]) | skip)
   have H' := Aside0.mk H
   clear H
   go_wp2
   go_meet
   case rel => exact ⟨_, (wrap64 ((l1.length : Int) + a0_4)), (by first | rfl | (simp; done) | (simp [*]; done)), H', ⟨by first | omega | exact Nat.le_refl _⟩, ⟨by first | exact Kd.R_nil _ _ _ _ _ | exact Kd.N_nil _ _ _ _ _ | exact Kd.V_nil _ _ _ _ _ | exact Kd.Q_nil _ _ _ _ _ | exact Kd.S_nil _ _ _ _ _⟩, ⟨by (with_reducible repeat (first | refine blk_drewN ?_ _ | refine blk_drew ?_ | refine blk_alloc ?_ _)); exact BK117.out⟩, ⟨(qed14_ HB.out GE117.out)⟩⟩
  ·rw [if_neg c6] at H
   have c6b0 : decide (a0_4 < 0) = false := decide_eq_false c6
   clear c6
   (first | rw [c6b0] | (simp only [i64_w, i32_w]; rw [c6b0]) | skip)
   have H' := Aside0.mk H
   clear H
   go_wp2
   go_meet
   case rel => exact ⟨_, (a0_4), (by first | rfl | (simp; done) | (simp [*]; done)), H', ⟨by first | omega | exact Nat.le_refl _⟩, ⟨by first | exact Kd.R_nil _ _ _ _ _ | exact Kd.N_nil _ _ _ _ _ | exact Kd.V_nil _ _ _ _ _ | exact Kd.Q_nil _ _ _ _ _ | exact Kd.S_nil _ _ _ _ _⟩, ⟨by (with_reducible repeat (first | refine blk_drewN ?_ _ | refine blk_drew ?_ | refine blk_alloc ?_ _)); exact BK117.out⟩, ⟨(qed14_ HB.out GE117.out)⟩⟩
 case rest =>
  clear HC3
  try clear c1
  try clear c2
  try clear p2
  try clear c6
  try clear c6b0
  try clear p6
  try clear hcz5_0
  try clear hcz5_1
  try clear hcz5_2
  try clear hcz5_3
  try clear hcz5_4
  try clear hcz5_5
  try clear hcz5_6
  try clear hfz5_0
  try clear hfz5_1
  try clear hfz5_2
  try clear hfz5_3
  try clear hfz5_4
  try clear hfz5_5
  try clear hfz5_6
  obtain ⟨kq, x6_2, rfl, HA, HJ2, HO_5, BK117, HB⟩ := hcut
  cases kq with
  | zero => exact absurd HA.out (by simp [caravanref1_keys.j0])
  | succ kj2 =>
   have H := HA.out
   clear HA
   simp only [caravanref1_keys.j0] at H
   have H' := Aside0.mk H
   clear H
   have hcz7_0 : wc.cell? ⟨gb117, 0, none⟩ = some (.string a0_0) := (blk_cell BK117.out 0).trans rfl
   have hcz7_1 : wc.cell? ⟨gb117, 1, none⟩ = some (.int .i64 a0_1) := (blk_cell BK117.out 1).trans rfl
   have hcz7_2 : wc.cell? ⟨gb117, 2, none⟩ = some (.int .i64 a0_2) := (blk_cell BK117.out 2).trans rfl
   have hcz7_3 : wc.cell? ⟨gb117, 3, none⟩ = some (.int .i64 a0_3) := (blk_cell BK117.out 3).trans rfl
   have hcz7_4 : wc.cell? ⟨gb117, 4, none⟩ = some (.int .i64 a0_4) := (blk_cell BK117.out 4).trans rfl
   have hcz7_5 : wc.cell? ⟨gb117, 5, none⟩ = some (.int .i64 a0_5) := (blk_cell BK117.out 5).trans rfl
   have hcz7_6 : wc.cell? ⟨gb117, 6, none⟩ = some (.bool a0_6) := (blk_cell BK117.out 6).trans rfl
   have hfz7_0 := blk_frozen BK117.out 0
   have hfz7_1 := blk_frozen BK117.out 1
   have hfz7_2 := blk_frozen BK117.out 2
   have hfz7_3 := blk_frozen BK117.out 3
   have hfz7_4 := blk_frozen BK117.out 4
   have hfz7_5 := blk_frozen BK117.out 5
   have hfz7_6 := blk_frozen BK117.out 6
   go_wp2
   go_loopg [5, 7] kj2 (fun kq v5 v7 w' => ∃ (x5_2 : List ByteArray) (x7_2 : Int), v7 = .int .i64 x7_2 ∧ Aside0 (caravanref1_keys.l0 kq l1 x5_2 x6_2 x7_2 a0_0 a0_1 a0_2 a0_3 a0_4 a0_5 a0_6 = some r) ∧ Aside0 (kq ≤ kj2) ∧ Aside0 (Kd.R Kd.string 9 w' w.heap.size (fun _ => True) v5 x5_2) ∧ Aside0 (w'.heap[gb117]? = some (.cells #[.string a0_0, .int .i64 a0_1, .int .i64 a0_2, .int .i64 a0_3, .int .i64 a0_4, .int .i64 a0_5, .bool a0_6] 26 (0, 0))) ∧ Aside0 (Below w.heap.size w w'))
   case atStart => exact ⟨(([] : List ByteArray)), (a0_3), (by first | rfl | (simp; done) | (simp [*]; done)), H', ⟨Nat.le_refl _⟩, ⟨by (with_reducible repeat (first | apply Kd.R_alloc | apply Kd.R_drewN | apply Kd.R_drew)); exact HO_5.out⟩, ⟨by (with_reducible repeat (first | refine blk_drewN ?_ _ | refine blk_drew ?_ | refine blk_alloc ?_ _)); exact BK117.out⟩, ⟨(qed14_ HB.out GE117.out)⟩⟩
   case round =>
    clear H'
    try clear c1
    try clear c2
    try clear p2
    try clear c6
    try clear c6b0
    try clear p6
    try clear hcz5_0
    try clear hcz5_1
    try clear hcz5_2
    try clear hcz5_3
    try clear hcz5_4
    try clear hcz5_5
    try clear hcz5_6
    try clear hcz7_0
    try clear hcz7_1
    try clear hcz7_2
    try clear hcz7_3
    try clear hcz7_4
    try clear hcz7_5
    try clear hcz7_6
    try clear hfz5_0
    try clear hfz5_1
    try clear hfz5_2
    try clear hfz5_3
    try clear hfz5_4
    try clear hfz5_5
    try clear hfz5_6
    try clear hfz7_0
    try clear hfz7_1
    try clear hfz7_2
    try clear hfz7_3
    try clear hfz7_4
    try clear hfz7_5
    try clear hfz7_6
    try clear p2
    try clear p6
    obtain ⟨x5_2, x7_2, rfl, HA, HK2, HO_5, BK117, HB⟩ := hrel
    cases gk with
    | zero => exact absurd HA.out (by simp [caravanref1_keys.l0])
    | succ k2 =>
     have H := HA.out
     clear HA
     simp only [caravanref1_keys.l0] at H
     by_cases c8 : x7_2 > 0
     ·rw [if_pos c8] at H
      have c8b0 : decide (0 < x7_2) = true := decide_eq_true c8
      clear c8
      by_cases c9 : x7_2 ≤ x6_2
      ·rw [if_pos c9] at H
       have c9b0 : decide (x7_2 ≤ x6_2) = true := decide_eq_true c9
       clear c9
       by_cases c10 : 0 ≤ x7_2
       ·rw [if_pos c10] at H
        have c10b0 : decide (0 ≤ x7_2) = true := decide_eq_true c10
        clear c10
        by_cases c11 : x7_2 < (l1.length : Int)
        ·rw [if_pos c11] at H
         have c11b0 : decide (x7_2 < (l1.length : Int)) = true := decide_eq_true c11
         clear c11
         by_cases c12 : x5_2.length < 8796093022208
         ·rw [if_pos c12] at H
          have LMc12 := Aside0.mk c12
          clear c12
          obtain ⟨y119, hy119⟩ : ∃ y_ : List ByteArray, y_ = (x5_2 ++ [rdOf ByteArray.empty l1 x7_2]) := ⟨_, rfl⟩
          replace H : (caravanref1_keys.l0 k2 l1 y119 x6_2 (wrap64 (x7_2 + a0_5)) a0_0 a0_1 a0_2 a0_3 a0_4 a0_5 a0_6) = some r := by first | (rw [hy119]; with_reducible exact H) | (have H2_ := (Option.bind_some _ _).symm.trans H; rw [hy119]; with_reducible exact H2_) | (have H2_ := (Option.bind_some _ _).symm.trans H; with_reducible exact H2_) | with_reducible exact H | (rw [hy119]; exact H) | exact H
          have Ny119 := Aside0.mk hy119
          clear hy119
          have H' := Aside0.mk H
          clear H
          have p118 : 0 ≤ (x7_2 : Int) := of_decide_eq_true (by first | (with_reducible assumption) | assumption)
          have q118 : x7_2 < (l1.length : Int) := of_decide_eq_true (by first | (with_reducible assumption) | assumption)
          obtain ⟨ad118, e118, hx118_0⟩ := Kd.at_string HR1.out x7_2 p118 q118
          cases e118
          replace hx118_0 := (HB.out.cell (World.block_lt_of_cell? w _ hx118_0)).trans hx118_0
          replace p118 := eq_true p118
          replace q118 := eq_true q118
          go_wp2_with (first | ((with_reducible refine gate_builtin (b := .append) (xs := #[.tmp 29, .tmp 34]) rfl ?_); at_builtin; refine Kd.R_append Kd.string (w0 := w) w.heap.size rfl (.tmp 29) (.tmp 34) 22 9 (.string ⟨#[]⟩) 16 rfl Try.underlying22 info9 rfl (by decide) (by omega) u5 x5_2 (rdOf ByteArray.empty l1 x7_2) [.string (rdOf ByteArray.empty l1 x7_2)] (fun _ => True) (fun _ => False) rfl rfl ?aP (fun _ hk => hk.elim) ?aF ?aO ?aB ?aS ?aL ?_; (case aP => exact rfl); (case aB => exact (qed14_ HB.out GE117.out)); (case aF => exact (fun _ _ => trivial)); (case aO => exact (q8524_ HO_5.out)); (case aS => exact (below_size (qed14_ HB.out GE117.out))); (case aL => have := LMc12.out; omega); intro v120 w13 ho hb hg hat; rw [← Ny119.out] at ho; have n0_ := Aside0.mk (blk_grown (g := gb117) (o := .cells #[.string a0_0, .int .i64 a0_1, .int .i64 a0_2, .int .i64 a0_3, .int .i64 a0_4, .int .i64 a0_5, .bool a0_6] 26 (0, 0)) (q1466_ BK117.out) hg (Kd.R_ne HO_5.out BK117.out (by decide))); have n1_ := Aside0.mk (hb); have n2_ := Aside0.mk (ho); clear BK117; clear HB; clear HO_5; have BK117 := n0_; have HB := n1_; have HO121 := n2_; clear n0_ n1_ n2_; clear ho hb hg hat; have hcz14_0 : w13.cell? ⟨gb117, 0, none⟩ = some (.string a0_0) := (blk_cell BK117.out 0).trans rfl; have hcz14_1 : w13.cell? ⟨gb117, 1, none⟩ = some (.int .i64 a0_1) := (blk_cell BK117.out 1).trans rfl; have hcz14_2 : w13.cell? ⟨gb117, 2, none⟩ = some (.int .i64 a0_2) := (blk_cell BK117.out 2).trans rfl; have hcz14_3 : w13.cell? ⟨gb117, 3, none⟩ = some (.int .i64 a0_3) := (blk_cell BK117.out 3).trans rfl; have hcz14_4 : w13.cell? ⟨gb117, 4, none⟩ = some (.int .i64 a0_4) := (blk_cell BK117.out 4).trans rfl; have hcz14_5 : w13.cell? ⟨gb117, 5, none⟩ = some (.int .i64 a0_5) := (blk_cell BK117.out 5).trans rfl; have hcz14_6 : w13.cell? ⟨gb117, 6, none⟩ = some (.bool a0_6) := (blk_cell BK117.out 6).trans rfl; have hfz14_0 := blk_frozen BK117.out 0; have hfz14_1 := blk_frozen BK117.out 1; have hfz14_2 := blk_frozen BK117.out 2; have hfz14_3 := blk_frozen BK117.out 3; have hfz14_4 := blk_frozen BK117.out 4; have hfz14_5 := blk_frozen BK117.out 5; have hfz14_6 := blk_frozen BK117.out 6))
          go_roundg k2
          case measure => have := HJ2.out; have := HK2.out; omega
          case rel => exact ⟨(y119), (wrap64 (x7_2 + a0_5)), (by first | rfl | (simp; done) | (simp [*]; done)), H', ⟨by have := HJ2.out; have := HK2.out; omega⟩, ⟨by (with_reducible repeat (first | apply Kd.R_alloc | apply Kd.R_drewN | apply Kd.R_drew)); exact HO121.out⟩, ⟨by (with_reducible repeat (first | refine blk_drewN ?_ _ | refine blk_drew ?_ | refine blk_alloc ?_ _)); exact BK117.out⟩, ⟨(qed14_ HB.out GE117.out)⟩⟩
         ·rw [if_neg c12] at H
          exact absurd H (by simp)
        ·rw [if_neg c11] at H
         exact absurd H (by simp)
       ·rw [if_neg c10] at H
        exact absurd H (by simp)
      ·rw [if_neg c9] at H
       have c9b0 : decide (x7_2 ≤ x6_2) = false := decide_eq_false c9
       clear c9
       obtain rfl := Option.some.inj H
       go_wp2
       go_ret
       exact ⟨_, by first | rfl | (simp [errW_none, errW_some] <;> rfl) | (simp [*, errW_none, errW_some] <;> rfl), by (with_reducible repeat (first | apply Kd.R_alloc | apply Kd.R_drewN | apply Kd.R_drew)); exact HO_5.out, (qed14_ HB.out GE117.out)⟩
     ·rw [if_neg c8] at H
      have c8b0 : decide (0 < x7_2) = false := decide_eq_false c8
      clear c8
      obtain rfl := Option.some.inj H
      go_wp2
      go_ret
      exact ⟨_, by first | rfl | (simp [errW_none, errW_some] <;> rfl) | (simp [*, errW_none, errW_some] <;> rfl), by (with_reducible repeat (first | apply Kd.R_alloc | apply Kd.R_drewN | apply Kd.R_drew)); exact HO_5.out, (qed14_ HB.out GE117.out)⟩

end Go.Proofs.Ytjdpmjpfhcdcfaa.G
