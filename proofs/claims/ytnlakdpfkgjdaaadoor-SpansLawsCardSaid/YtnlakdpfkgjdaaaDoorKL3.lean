/- Texts of mine, packed in the order in which they build: G5, G6, G7, G8, CavKeep, MiA, Cc, Ga, CavTail, Gp, CavU, Gc, GBoth, GUnion, G12, G13, PMx, PMk, PMs, GHas, PAw. Conditions: where a theorem asks for any, it names them. -/
import Derived.Test.YtnlakdpfkgjdaaaDoorRows
import Derived.Test.YtnlakdpfkgjdaaaDoorProg
import Derived.WalkKit
import Derived.WalkSpells
import Derived.WalkLawsBesides
import Derived.WalkSmall
import Derived.OwnWalkIn
import Derived.TacticsInMore
import Derived.Laws.AppendOwnNone
import Derived.Maps.AppendAt
import Derived.Deep.RegionLaw
import Derived.Lib.BufferRead
import Derived.KernelRfl
import Derived.Lib.Hide
import Derived.Lib.SplitLaws
import Derived.Shelf.Strings.OnBuilder
import Derived.Shelf.Small.Bits
import Derived.Shelf.Small.Wraps
import Derived.Shelf.LaysM
import Derived.Shelf.Strconv.Itoa3
import Derived.Shelf.LaysC
import Derived.Shelf.Strconv.AtoiAll
import Derived.Shelf.Strings.Search3
import Derived.Shelf.Strings.Cut
import Derived.Shelf.SlSortCmp.WholeK
import Derived.Shelf.Lays
import Derived.Shelf.SlLaysF0
import Derived.Test.YtnlakdpfkgjdaaaDoorWWords
import Derived.Test.YtnlakdpfkgjdaaaDoorWLast
import Derived.Test.YtnlakdpfkgjdaaaDoorWQPut
import Derived.Test.YtnlakdpfkgjdaaaDoorWApart
import Derived.Test.YtnlakdpfkgjdaaaDoorWArr
import Derived.Test.YtnlakdpfkgjdaaaDoorWZeros
import Derived.Test.YtnlakdpfkgjdaaaDoorWFoot
import Derived.Test.YtnlakdpfkgjdaaaDoorWKept
import Derived.Test.YtnlakdpfkgjdaaaDoorWShare
import Derived.Test.YtnlakdpfkgjdaaaDoorWN
import Derived.Test.YtnlakdpfkgjdaaaDoorWNEv
import Derived.Test.YtnlakdpfkgjdaaaDoorWMore
import Derived.IntWalk
import Derived.Lib.AppendIntMem
import Derived.Lib.ItoaLen
import Derived.Stop.LaidErr
import Derived.Lib.LaidTab
import Derived.LaidLaws
import Derived.Deep.DeepLaidRun
import Derived.ChangeSame
import Derived.ChangeVars
import Derived.JoinedOf
import Derived.RowKit
import Derived.RowKit3
import Derived.RowKitTokens
import Derived.HandedShaped
import Derived.Handed
import Derived.Shelf.Vars
import Derived.SevenTiedAt
import Derived.Below
import Derived.Deep.Draws
import Derived.Deep.AppendLies
import Derived.OwnWalk
import Derived.Laws.BytesArg
import Derived.Laws.MakeOwn
import Derived.Laws.OwnMore
import Derived.Deep.OwnRows
import Derived.Tactics
import Derived.Lib.ConvBytes
import Derived.Laws.Slices
import Derived.Deep.LoopGhost
import Derived.Deep.QuietTactic
import Derived.BigQuiet
import Derived.WideLaws
import Derived.Deep.DeepCutAuto
import Derived.Deep.CutBlock
import Derived.Deep.RegionHeld3
import Derived.Laws.Rows
import Derived.Lib.AppendStr
import Derived.ArgAppend
import Derived.Laws.IdiomCopy
import Derived.OrdersHeld
import Derived.Laws.BitsLemmas
import Derived.Test.YtnlakdpfkgjdaaaDoorWTab
import Derived.Test.YtnlakdpfkgjdaaaDoorWFour
import Derived.Test.YtnlakdpfkgjdaaaDoorWFootNe
import Derived.Test.YtnlakdpfkgjdaaaDoorWAt
import Derived.Test.YtnlakdpfkgjdaaaDoorWEqStruct
import Derived.Test.YtnlakdpfkgjdaaaDoorWRepsOne
import Derived.Test.YtnlakdpfkgjdaaaDoorWInv
import Derived.Test.YtnlakdpfkgjdaaaDoorWInvWords
import Derived.Test.YtnlakdpfkgjdaaaDoorWGuard
import Derived.RangeFuncNested
import Derived.RangeFuncBound
import Derived.RangeFuncCalls
import Derived.RangeFuncLeaves
import Derived.RangeFuncBox
import Derived.Shelf.Abstract
import Derived.Shelf.RegionOpen
import Derived.LoopNIn
import Derived.LoopIn
import Derived.Deep.RegionWith
import Derived.BigRegionIn
import Derived.RegionIn
import Derived.Sort.BigQuietIn
import Derived.Lib.IndexBytes
import Derived.Lib.IndexLaws
import Derived.Laws.Tables
import Derived.StillTail
import Derived.StillTactics
import Derived.OrdersIn
import Derived.TacticsIn
import Derived.Stop.RegionWithIn
import Derived.Sort.CutIn
import Derived.ProofKit
import Derived.OpenShut
import Derived.ShutString
import Derived.ChangeOld
import Derived.SizedLaws
import Derived.Test.YtnlakdpfkgjdaaaDoorWSized
import Derived.Test.YtnlakdpfkgjdaaaDoorKL1
import Derived.Test.YtnlakdpfkgjdaaaDoorKL2
/- What functions of the translation come to, and their calls' proofs; by a program of mine over the kit's print, with contracts given by hand beside. Conditions: where a plain function tells none, nothing is said. -/
namespace Go.Proofs.YtnlakdpfkgjdaaaDoor.G
open Go.RowKit Go.Proofs.YtnlakdpfkgjdaaaDoorW.PrintWords Go.Proofs.YtnlakdpfkgjdaaaDoorW.PrintLast Go.Proofs.YtnlakdpfkgjdaaaDoorW.PrintMore
attribute [local go_sem] max2_int min2_int max_two min_two max_three min_three max_four min_four   -- for this text's walks alone
set_option linter.unusedVariables false
set_option linter.unusedSimpArgs false

/-! ### caravanref1_Mix: function 25 -/
mutual
def caravanref1_Mix.l0 : Nat → Int → List (S31) → List (S31) → List Int → List (S31) → Int → Option ((List (S31)))
 | 0, _, _, _, _, _, _ => none
 | k + 1, x0, x1, x2, x7, x8, x9 => if (wrap64 (x9 + 1)) < (x7.length : Int) then (if 0 ≤ x9 then (if x9 < (x7.length : Int) then ((caravanref1_Has.f k x1 (rd x7 x9)).bind fun t228 => ((caravanref1_Has.f k x2 (rd x7 x9)).bind fun t230 => (if t228 = true then (caravanref1_Mix.j1 k x0 x1 x2 x7 x8 x9 t228 t230 true) else (caravanref1_Mix.j1 k x0 x1 x2 x7 x8 x9 t228 t230 t230)))) else (none)) else (none)) else (some x8)
def caravanref1_Mix.j1 : Nat → Int → List (S31) → List (S31) → List Int → List (S31) → Int → Bool → Bool → Bool → Option ((List (S31)))
 | 0, _, _, _, _, _, _, _, _, _ => none
 | k + 1, x0, x1, x2, x7, x8, x9, x10, x11, x12 => if x0 = 1 then (if x10 = true then (caravanref1_Mix.j2 k x0 x1 x2 x7 x8 x9 (!x11)) else (caravanref1_Mix.j2 k x0 x1 x2 x7 x8 x9 false)) else (if x0 = 2 then (if x10 = true then (caravanref1_Mix.j2 k x0 x1 x2 x7 x8 x9 x11) else (caravanref1_Mix.j2 k x0 x1 x2 x7 x8 x9 false)) else (caravanref1_Mix.j2 k x0 x1 x2 x7 x8 x9 x12))
def caravanref1_Mix.j2 : Nat → Int → List (S31) → List (S31) → List Int → List (S31) → Int → Bool → Option ((List (S31)))
 | 0, _, _, _, _, _, _, _ => none
 | k + 1, x0, x1, x2, x7, x8, x9, x12 => if x12 = true then (if (x8.length : Int) > 0 then (if 0 ≤ (wrap64 ((x8.length : Int) - 1)) then (if (wrap64 ((x8.length : Int) - 1)) < (x8.length : Int) then (if 0 ≤ x9 then (if x9 < (x7.length : Int) then (if ((rd_T31 x8 (wrap64 ((x8.length : Int) - 1))).f1) = (wrap64 ((rd x7 x9) - 1)) then (if 0 ≤ (wrap64 (x9 + 1)) then (if (wrap64 (x9 + 1)) < (x7.length : Int) then (caravanref1_Mix.l0 k x0 x1 x2 x7 (x8.set ((wrap64 ((x8.length : Int) - 1)) : Int).toNat (⟨(rd_T31 x8 (wrap64 ((x8.length : Int) - 1))).f0, wrap64 ((rd x7 (wrap64 (x9 + 1))) - 1)⟩ : S31)) (wrap64 (x9 + 1))) else (none)) else (none)) else (if 0 ≤ (wrap64 (x9 + 1)) then (if (wrap64 (x9 + 1)) < (x7.length : Int) then (if x8.length < 8796093022208 then (caravanref1_Mix.l0 k x0 x1 x2 x7 (x8 ++ [(⟨rd x7 x9, wrap64 ((rd x7 (wrap64 (x9 + 1))) - 1)⟩ : S31)]) (wrap64 (x9 + 1))) else (none)) else (none)) else (none))) else (none)) else (none)) else (none)) else (none)) else (if 0 ≤ x9 then (if x9 < (x7.length : Int) then (if 0 ≤ (wrap64 (x9 + 1)) then (if (wrap64 (x9 + 1)) < (x7.length : Int) then (if x8.length < 8796093022208 then (caravanref1_Mix.l0 k x0 x1 x2 x7 (x8 ++ [(⟨rd x7 x9, wrap64 ((rd x7 (wrap64 (x9 + 1))) - 1)⟩ : S31)]) (wrap64 (x9 + 1))) else (none)) else (none)) else (none)) else (none)) else (none))) else (caravanref1_Mix.l0 k x0 x1 x2 x7 x8 (wrap64 (x9 + 1)))
end
def caravanref1_Mix.f (k : Nat) (a0 : Int) (l1 : List (S31)) (l2 : List (S31)) : Option ((List (S31))) := (caravanref1_marks.f k l1 l2).bind fun t224 => (caravanref1_Mix.l0 k a0 l1 l2 t224 ([] : List (S31)) 0)
theorem caravanref1_Mix.mono_l : ∀ k, (∀ y0 y1 y2 y3 y4 y5, LeO (caravanref1_Mix.l0 k y0 y1 y2 y3 y4 y5) (caravanref1_Mix.l0 (k + 1) y0 y1 y2 y3 y4 y5)) ∧ (∀ y0 y1 y2 y3 y4 y5 y6 y7 y8, LeO (caravanref1_Mix.j1 k y0 y1 y2 y3 y4 y5 y6 y7 y8) (caravanref1_Mix.j1 (k + 1) y0 y1 y2 y3 y4 y5 y6 y7 y8)) ∧ (∀ y0 y1 y2 y3 y4 y5 y6, LeO (caravanref1_Mix.j2 k y0 y1 y2 y3 y4 y5 y6) (caravanref1_Mix.j2 (k + 1) y0 y1 y2 y3 y4 y5 y6))
 | 0 => ⟨fun _ _ _ _ _ _ r h => by simp [caravanref1_Mix.l0] at h, fun _ _ _ _ _ _ _ _ _ r h => by simp [caravanref1_Mix.j1] at h, fun _ _ _ _ _ _ _ r h => by simp [caravanref1_Mix.j2] at h⟩
 | k + 1 => by
  obtain ⟨ih0, ih1, ih2⟩ := caravanref1_Mix.mono_l k
  refine ⟨?_, ?_, ?_⟩
  ·intro y0 y1 y2 y3 y4 y5
   unfold caravanref1_Mix.l0
   repeat' first
   | (with_reducible exact ih0 _ _ _ _ _ _)
   | (with_reducible exact ih1 _ _ _ _ _ _ _ _ _)
   | (with_reducible exact ih2 _ _ _ _ _ _ _)
   | (with_reducible exact caravanref1_Has.mono _ _ _)
   | (with_reducible exact caravanref1_marks.mono _ _ _)
   | (with_reducible exact LeO.refl _)
   | (with_reducible exact LeO.none _)
   | (with_reducible refine LeO.ite ?_ ?_)
   | (with_reducible refine LeO.bind ?_ (fun _ => ?_))
   | exact ih0 _ _ _ _ _ _
   | exact ih1 _ _ _ _ _ _ _ _ _
   | exact ih2 _ _ _ _ _ _ _
   | exact caravanref1_Has.mono _ _ _
   | exact caravanref1_marks.mono _ _ _
   | exact LeO.none _
   | refine LeO.ite ?_ ?_
   | refine LeO.bind ?_ (fun _ => ?_)
  ·intro y0 y1 y2 y3 y4 y5 y6 y7 y8
   unfold caravanref1_Mix.j1
   repeat' first
   | (with_reducible exact ih0 _ _ _ _ _ _)
   | (with_reducible exact ih1 _ _ _ _ _ _ _ _ _)
   | (with_reducible exact ih2 _ _ _ _ _ _ _)
   | (with_reducible exact caravanref1_Has.mono _ _ _)
   | (with_reducible exact caravanref1_marks.mono _ _ _)
   | (with_reducible exact LeO.refl _)
   | (with_reducible exact LeO.none _)
   | (with_reducible refine LeO.ite ?_ ?_)
   | (with_reducible refine LeO.bind ?_ (fun _ => ?_))
   | exact ih0 _ _ _ _ _ _
   | exact ih1 _ _ _ _ _ _ _ _ _
   | exact ih2 _ _ _ _ _ _ _
   | exact caravanref1_Has.mono _ _ _
   | exact caravanref1_marks.mono _ _ _
   | exact LeO.none _
   | refine LeO.ite ?_ ?_
   | refine LeO.bind ?_ (fun _ => ?_)
  ·intro y0 y1 y2 y3 y4 y5 y6
   unfold caravanref1_Mix.j2
   repeat' first
   | (with_reducible exact ih0 _ _ _ _ _ _)
   | (with_reducible exact ih1 _ _ _ _ _ _ _ _ _)
   | (with_reducible exact ih2 _ _ _ _ _ _ _)
   | (with_reducible exact caravanref1_Has.mono _ _ _)
   | (with_reducible exact caravanref1_marks.mono _ _ _)
   | (with_reducible exact LeO.refl _)
   | (with_reducible exact LeO.none _)
   | (with_reducible refine LeO.ite ?_ ?_)
   | (with_reducible refine LeO.bind ?_ (fun _ => ?_))
   | exact ih0 _ _ _ _ _ _
   | exact ih1 _ _ _ _ _ _ _ _ _
   | exact ih2 _ _ _ _ _ _ _
   | exact caravanref1_Has.mono _ _ _
   | exact caravanref1_marks.mono _ _ _
   | exact LeO.none _
   | refine LeO.ite ?_ ?_
   | refine LeO.bind ?_ (fun _ => ?_)
theorem caravanref1_Mix.mono : ∀ a0 a1 a2 k, LeO (caravanref1_Mix.f k a0 a1 a2) (caravanref1_Mix.f (k + 1) a0 a1 a2) := by
 intro a0 a1 a2 k
 obtain ⟨ih0, ih1, ih2⟩ := caravanref1_Mix.mono_l k
 unfold caravanref1_Mix.f
 repeat' first
  | (with_reducible exact ih0 _ _ _ _ _ _)
  | (with_reducible exact ih1 _ _ _ _ _ _ _ _ _)
  | (with_reducible exact ih2 _ _ _ _ _ _ _)
  | (with_reducible exact caravanref1_Has.mono _ _ _)
  | (with_reducible exact caravanref1_marks.mono _ _ _)
  | (with_reducible exact LeO.refl _)
  | (with_reducible exact LeO.none _)
  | (with_reducible refine LeO.ite ?_ ?_)
  | (with_reducible refine LeO.bind ?_ (fun _ => ?_))
  | exact ih0 _ _ _ _ _ _
  | exact ih1 _ _ _ _ _ _ _ _ _
  | exact ih2 _ _ _ _ _ _ _
  | exact caravanref1_Has.mono _ _ _
  | exact caravanref1_marks.mono _ _ _
  | exact LeO.none _
  | refine LeO.ite ?_ ?_
  | refine LeO.bind ?_ (fun _ => ?_)
def caravanref1_Mix.T6 : Bool × List (List Nat × List Nat) := (true, [([], []), ([], []), ([], []), ([1, 2], [1, 2]), ([3], [3]), ([0, 4], [0, 4]), ([], []), ([], []), ([], []), ([7, 8], [7, 8]), ([9], [9]), ([6, 10, 5], [6, 10]), ([5, 11, 0, 1, 2, 3, 4, 5], [5]), ([11, 12, 0, 1, 2, 3, 4, 5, 6, 7, 8, 9, 10, 11, 12], [11])])
def caravanref1_Mix.B6 : List Nat := [0, 0, 0, 6, 14, 31, 0, 0, 0, 384, 896, 2047, 4095, 8191]
theorem caravanref1_Mix.tab6 : rtab .any (opsOf Tryd.f25 6) = caravanref1_Mix.T6 := by kernel_rfl
theorem caravanref1_Mix.bits6 : waitsOk caravanref1_Mix.T6.2 caravanref1_Mix.B6 = true := by kernel_rfl
def caravanref1_Mix.T13 : Bool × List (List Nat × List Nat) := (true, [([], []), ([], []), ([], []), ([1, 2], [1, 2]), ([3], [3]), ([], []), ([], []), ([6], [6]), ([5, 7], [5, 7]), ([8], [8]), ([9], [9]), ([4, 10], [4, 10]), ([11], [11]), ([0, 12], [0, 12]), ([13, 13, 0, 1, 2, 3, 4, 5, 6, 7, 8, 9, 10, 11, 12, 13], [0, 13])])
def caravanref1_Mix.B13 : List Nat := [0, 0, 0, 6, 14, 0, 0, 64, 224, 480, 992, 2046, 4094, 8191, 16383]
theorem caravanref1_Mix.tab13 : rtab .any (opsOf Tryd.f25 13) = caravanref1_Mix.T13 := by kernel_rfl
theorem caravanref1_Mix.bits13 : waitsOk caravanref1_Mix.T13.2 caravanref1_Mix.B13 = true := by kernel_rfl
def caravanref1_Mix.T15 : Bool × List (List Nat × List Nat) := (true, [([], []), ([0], [0]), ([1], [1]), ([2], [2]), ([3], [3]), ([3], [3]), ([5, 3], [3, 5]), ([6, 3], [3, 6]), ([4, 7, 3], [3, 4, 7]), ([8, 3], [3, 8]), ([9, 3], [3, 9]), ([3], [3]), ([3], [3]), ([11, 12, 3], [3, 11, 12]), ([13, 3], [3, 13]), ([14, 3], [3, 14]), ([10, 15, 3], [3, 10, 15]), ([3, 16], [3, 16]), ([17, 3], [17])])
def caravanref1_Mix.B15 : List Nat := [0, 1, 3, 7, 15, 15, 47, 111, 255, 511, 1023, 15, 15, 6159, 14351, 30735, 65535, 131071, 262143]
theorem caravanref1_Mix.tab15 : rtab .any (opsOf Tryd.f25 15) = caravanref1_Mix.T15 := by kernel_rfl
theorem caravanref1_Mix.bits15 : waitsOk caravanref1_Mix.T15.2 caravanref1_Mix.B15 = true := by kernel_rfl
set_option maxHeartbeats 8000000 in
set_option maxRecDepth 100000 in
theorem caravanref1_Mix.calls (k : Nat) (a0 : Int) (A1 : Option Addr) (c1 : Nat) (l1 : List (S31)) (A2 : Option Addr) (c2 : Nat) (l2 : List (S31)) (r : List (S31)) (w : World) (hr1 : Kd.C k31 w A1 l1.length l1) (hc1 : l1.length ≤ c1) (hr2 : Kd.C k31 w A2 l2.length l2) (hc2 : l2.length ≤ c2) (h : caravanref1_Mix.f k a0 l1 l2 = some r) :
 Calls Tryd.prog 25 #[.int .i64 a0, .slice A1 l1.length c1, .slice A2 l2.length c2] w fun e w' => ∃ v0_ : Value, e = .returned (v0_) ∧ Kd.R k31 31 w' w.heap.size (fun _ => True) v0_ r ∧ Below w.heap.size w w' := by
 have hu31 := Tryd.underlying31
 have HR1 := Aside0.mk hr1
 have HC1 := Aside0.mk hc1
 clear hr1 hc1
 have HR2 := Aside0.mk hr2
 have HC2 := Aside0.mk hc2
 clear hr2 hc2
 have HB := Aside0.mk (Below.refl w.heap.size w)
 have H : ((caravanref1_marks.f k l1 l2).bind fun t224 => (caravanref1_Mix.l0 k a0 l1 l2 t224 ([] : List (S31)) 0)) = some r := h
 clear h
 replace H := Option.bind_eq_some_iff.mp H
 obtain ⟨t224, A40, H⟩ := H
 replace H : (caravanref1_Mix.l0 k a0 l1 l2 t224 ([] : List (S31)) 0) = some r := H
 have A4 := Aside0.mk A40
 clear A40
 have H' := Aside0.mk H
 clear H
 go_enter Tryd.func25, Tryd.ntmps25
 go_wp2_with (first | ((with_reducible refine gate_callee (f := 38) rfl ?_); refine goesL_ (some 15) rfl rfl Tryd.func38 (by kernel_rfl) rfl #[.slice A1 l1.length c1, .slice A2 l2.length c2] rfl qM_ ?_; (with_reducible refine (caravanref1_marks.calls k _ _ l1 _ _ l2 t224 _ ?side1 ?side2 ?side3 ?side4 A4.out).mono ?_); (case side1 => exact qC_ (HR1.out)); (case side2 => exact HC1.out); (case side3 => exact qC_ (HR2.out)); (case side4 => exact HC2.out); rintro e w5 ⟨v225, rfl, ho0, hb⟩; refine ⟨_, rfl, ?_⟩; have n0_ := Aside0.mk (Kd.R_lower ho0 (below_size (qdb35_ HB.out))); have n1_ := Aside0.mk (below_step (qdb35_ HB.out) hb); clear HB; have HO226 := n0_; have HB := n1_; clear n0_ n1_; (try clear hb); (try clear hb2); (try clear hk); (try clear hi); (try clear ho0)))
 go_loopg [8, 9] k (fun kq v8 v9 w' => ∃ (x8_1 : List (S31)) (x9_1 : Int), v9 = .int .i64 x9_1 ∧ Aside0 (caravanref1_Mix.l0 kq a0 l1 l2 t224 x8_1 x9_1 = some r) ∧ Aside0 (kq ≤ k) ∧ Aside0 (Kd.R (Kd.int .i64) 3 w' w.heap.size (fun _ => True) v225 t224) ∧ Aside0 (Kd.R k31 31 w' w.heap.size (fun _ => True) v8 x8_1) ∧ Aside0 (Below w.heap.size w w'))
 case atStart => exact ⟨(([] : List (S31))), (0), (by first | rfl | (simp; done) | (simp [*]; done)), H', ⟨Nat.le_refl _⟩, ⟨by (with_reducible repeat (first | apply Kd.R_alloc | apply Kd.R_drewN | apply Kd.R_drew)); exact HO226.out⟩, ⟨by first | exact Kd.R_nil _ _ _ _ _ | exact Kd.N_nil _ _ _ _ _ | exact Kd.V_nil _ _ _ _ _ | exact Kd.Q_nil _ _ _ _ _ | exact Kd.S_nil _ _ _ _ _⟩, ⟨(qdb35_ HB.out)⟩⟩
 case round =>
  clear H'
  try clear c1
  try clear c2
  try clear p2
  try clear c3
  obtain ⟨x8_1, x9_1, rfl, HA, HK1, HO_7, HO_8, HB⟩ := hrel
  cases gk with
  | zero => exact absurd HA.out (by simp [caravanref1_Mix.l0])
  | succ k1 =>
   have H := HA.out
   clear HA
   simp only [caravanref1_Mix.l0] at H
   by_cases c6 : (wrap64 (x9_1 + 1)) < (t224.length : Int)
   ·rw [if_pos c6] at H
    have c6b0 : decide ((wrap64 (x9_1 + 1)) < (t224.length : Int)) = true := decide_eq_true c6
    clear c6
    by_cases c7 : 0 ≤ x9_1
    ·rw [if_pos c7] at H
     have c7b0 : decide (0 ≤ x9_1) = true := decide_eq_true c7
     clear c7
     by_cases c8 : x9_1 < (t224.length : Int)
     ·rw [if_pos c8] at H
      have c8b0 : decide (x9_1 < (t224.length : Int)) = true := decide_eq_true c8
      clear c8
      replace H := Option.bind_eq_some_iff.mp H
      obtain ⟨t228, A90, H⟩ := H
      replace H : ((caravanref1_Has.f k1 l2 (rd t224 x9_1)).bind fun t230 => (if t228 = true then (caravanref1_Mix.j1 k1 a0 l1 l2 t224 x8_1 x9_1 t228 t230 true) else (caravanref1_Mix.j1 k1 a0 l1 l2 t224 x8_1 x9_1 t228 t230 t230))) = some r := H
      have A9 := Aside0.mk A90
      clear A90
      replace H := Option.bind_eq_some_iff.mp H
      obtain ⟨t230, A100, H⟩ := H
      replace H : (if t228 = true then (caravanref1_Mix.j1 k1 a0 l1 l2 t224 x8_1 x9_1 t228 t230 true) else (caravanref1_Mix.j1 k1 a0 l1 l2 t224 x8_1 x9_1 t228 t230 t230)) = some r := H
      have A10 := Aside0.mk A100
      clear A100
      have HC11 := Aside0.mk H
      clear H
      obtain ⟨Ao12, co12, eo12⟩ := Kd.R_slice HO_7.out
      subst eo12
      try go_wp2
      have n0_ := Aside0.mk (Kd.R_drew HO_7.out)
      have n1_ := Aside0.mk (Kd.R_drew HO_8.out)
      have n2_ := Aside0.mk (below_drew1 HB.out)
      clear HO_7
      clear HO_8
      clear HB
      have HO_7 := n0_
      have HO_8 := n1_
      have HB := n2_
      clear n0_ n1_ n2_
      have p227 : 0 ≤ (x9_1 : Int) := of_decide_eq_true (by first | (with_reducible assumption) | assumption)
      have q227 : x9_1 < (t224.length : Int) := of_decide_eq_true (by first | (with_reducible assumption) | assumption)
      obtain ⟨ad227, e227, hx227_0⟩ := Kd.at_int (Kd.R_reads' HO_7.out).2.2 x9_1 p227 q227
      cases e227
      replace p227 := eq_true p227
      replace q227 := eq_true q227
      have p229 : 0 ≤ (x9_1 : Int) := of_decide_eq_true (by first | (with_reducible assumption) | assumption)
      have q229 : x9_1 < (t224.length : Int) := of_decide_eq_true (by first | (with_reducible assumption) | assumption)
      obtain ⟨ad229, e229, hx229_0⟩ := Kd.at_int (Kd.R_reads' HO_7.out).2.2 x9_1 p229 q229
      obtain rfl : ad227 = ad229 := (by injection e229)
      replace p229 := eq_true p229
      replace q229 := eq_true q229
      refine start_ (n := 14) (S := fun w' => w'.cell? (ad227.add (x9_1).toNat) = some (.int .i64 (rd t224 x9_1)) ∧ w'.cell? (ad227.add (x9_1).toNat) = some (.int .i64 (rd t224 x9_1))) (ds := []) (ml_ 14 0) (by kernel_rfl) rfl rfl ⟨hx227_0, hx229_0⟩ (fun hHeld => ?_); refine with_tabW caravanref1_Mix.tab6 caravanref1_Mix.bits6 (fun HT_ HW_ => ?_)
      generalize wr.drew = w13 at HO_7 HO_8 HB hx227_0 hx229_0 hHeld ⊢
      refine pA_ 0 23 (ml_ 14 1) rfl rfl HT_.out ?_
      refine pA_ 1 24 (ml_ 14 3) rfl rfl HT_.out ?_
      refine pA_ 2 25 (ml_ 14 7) rfl rfl HT_.out ?_
      refine pA_ 3 26 (ml_ 14 15) rfl rfl HT_.out ?_
      refine pA_ 6 29 (ml_ 14 79) rfl rfl HT_.out ?_
      refine pA_ 7 30 (ml_ 14 207) rfl rfl HT_.out ?_
      refine pA_ 8 31 (ml_ 14 463) rfl rfl HT_.out ?_
      refine pA_ 9 32 (ml_ 14 975) rfl rfl HT_.out ?_
      refine t2_ 4 27 (ml_ 14 991) rfl rfl HT_.out HW_.out hHeld ?_
      refine t2_ 10 33 (ml_ 14 2015) rfl rfl HT_.out HW_.out hHeld ?_
      refine one_ (i := 5) (N := some 28) (ml_ 14 2047) rfl rfl (one_of HT_.out (by kernel_rfl)) (by decide) (fun K hK => ?_)
      refine goes_ Tryd.func19 (by kernel_rfl) rfl #[.slice A1 l1.length c1, .int .i64 (rd t224 x9_1)] (by rfl) rfl rfl qM_ ?_
      with_reducible refine (caravanref1_Has.calls k1 _ _ l1 (rd t224 x9_1) t228 _ ?side1 ?side2 A9.out).mono ?_
      (case side1 => exact qC_ ((Kd.C_below HR1.out HB.out)))
      (case side2 => exact HC1.out)
      rintro e w' ⟨rfl, ⟨nd, rfl⟩⟩
      refine ⟨_, rfl, ?_⟩
      refine hK.out _ _ ⟨hHeld.1, hHeld.2⟩ (fun hHeld => ?_)
      clear hK K
      refine nA_ 28 ?_
      refine one_ (i := 11) (N := some 34) (ml_ 14 4095) rfl rfl (one_of HT_.out (by kernel_rfl)) (by decide) (fun K hK => ?_)
      refine goes_ Tryd.func19 (by kernel_rfl) rfl #[.slice A2 l2.length c2, .int .i64 (rd t224 x9_1)] (by rfl) rfl rfl qM_ ?_
      with_reducible refine (caravanref1_Has.calls k1 _ _ l2 (rd t224 x9_1) t230 _ ?side1 ?side2 A10.out).mono ?_
      (case side1 => repeat (first | exact (Kd.C_below HR2.out (qdb35_ HB.out)) | (with_reducible refine Kd.C_alloc ?_ _) | (with_reducible refine Kd.C_drewN ?_ _) | (with_reducible refine Kd.C_drew ?_)))
      (case side2 => exact HC2.out)
      rintro e w' ⟨rfl, ⟨nd, rfl⟩⟩
      refine ⟨_, rfl, ?_⟩
      refine hK.out _ _ ⟨hHeld.1, hHeld.2⟩ (fun hHeld => ?_)
      clear hK K
      refine nA_ 34 ?_
      refine pA_ 12 10 (ml_ 14 8191) rfl rfl HT_.out ?_
      refine pA_ 13 11 (ml_ 14 16383) rfl rfl HT_.out ?_
      refine done_ (done_of HT_.out (by kernel_rfl)) ?_
      go_upto_region 7 with (fail)
      go_cut [12] (fun v12 wc => ∃ (kq : Nat) (x12_10 : Bool), v12 = .bool x12_10 ∧ Aside0 (caravanref1_Mix.j1 kq a0 l1 l2 t224 x8_1 x9_1 t228 t230 x12_10 = some r) ∧ Aside0 (kq ≤ k1) ∧ Aside0 (Kd.R (Kd.int .i64) 3 wc w.heap.size (fun _ => True) (.slice (some ad227) t224.length co12) t224) ∧ Aside0 (Kd.R k31 31 wc w.heap.size (fun _ => True) u8 x8_1) ∧ Aside0 (Below w.heap.size w wc))
      case first =>
       have H := HC11.out
       clear HC11
       by_cases c14 : t228 = true
       ·subst c14
        have H1 : (caravanref1_Mix.j1 k1 a0 l1 l2 t224 x8_1 x9_1 true t230 true) = some r := by rw [if_pos rfl] at H; exact H
        clear H
        have H := H1
        clear H1
        have H' := Aside0.mk H
        clear H
        go_wp2
        go_meet
        case rel => exact ⟨_, (true), (by first | rfl | (simp; done) | (simp [*]; done)), H', ⟨by have := HK1.out; first | omega | exact Nat.le_refl _⟩, ⟨by (with_reducible repeat (first | apply Kd.R_alloc | apply Kd.R_drewN | apply Kd.R_drew)); exact HO_7.out⟩, ⟨by (with_reducible repeat (first | apply Kd.R_alloc | apply Kd.R_drewN | apply Kd.R_drew)); exact HO_8.out⟩, ⟨(qdb35_ HB.out)⟩⟩
       ·replace c14 := Bool.eq_false_iff.mpr c14
        subst c14
        have H1 : (caravanref1_Mix.j1 k1 a0 l1 l2 t224 x8_1 x9_1 false t230 t230) = some r := by rw [if_neg (show ¬ (false = true) by decide)] at H; exact H
        clear H
        have H := H1
        clear H1
        have H' := Aside0.mk H
        clear H
        go_wp2
        go_meet
        case rel => exact ⟨_, (t230), (by first | rfl | (simp; done) | (simp [*]; done)), H', ⟨by have := HK1.out; first | omega | exact Nat.le_refl _⟩, ⟨by (with_reducible repeat (first | apply Kd.R_alloc | apply Kd.R_drewN | apply Kd.R_drew)); exact HO_7.out⟩, ⟨by (with_reducible repeat (first | apply Kd.R_alloc | apply Kd.R_drewN | apply Kd.R_drew)); exact HO_8.out⟩, ⟨(qdb35_ HB.out)⟩⟩
      case rest =>
       clear HC11
       try clear c1
       try clear c2
       try clear p2
       try clear q2
       try clear hx2
       try clear c3
       try clear c6
       try clear c6b0
       try clear p6
       try clear c7
       try clear c7b0
       try clear c8
       try clear c8b0
       try clear c14
       try clear hx227_0
       try clear hx229_0
       try clear p2
       try clear p227
       try clear p229
       try clear q227
       try clear q229
       obtain ⟨kq, x12_10, rfl, HA, HJ10, HO_7, HO_8, HB⟩ := hcut
       cases kq with
       | zero => exact absurd HA.out (by simp [caravanref1_Mix.j1])
       | succ kj10 =>
        have H := HA.out
        clear HA
        simp only [caravanref1_Mix.j1] at H
        have HC15 := Aside0.mk H
        clear H
        go_upto_block 2 with (fail)
        go_cut [12] (fun v12 wc => ∃ (kq : Nat) (x12_14 : Bool), v12 = .bool x12_14 ∧ Aside0 (caravanref1_Mix.j2 kq a0 l1 l2 t224 x8_1 x9_1 x12_14 = some r) ∧ Aside0 (kq ≤ kj10) ∧ Aside0 (Kd.R (Kd.int .i64) 3 wc w.heap.size (fun _ => True) (.slice (some ad227) t224.length co12) t224) ∧ Aside0 (Kd.R k31 31 wc w.heap.size (fun _ => True) u8 x8_1) ∧ Aside0 (Below w.heap.size w wc))
        case first =>
         have H := HC15.out
         clear HC15
         by_cases c16 : a0 = 1
         ·rw [if_pos c16] at H
          have c16b0 : (a0 == 1) = true := beq_iff_eq.mpr c16
          have c16b1 : (a0 != 1) = false := bne_eq_false_iff_eq.mpr c16
          clear c16
          (first | rw [c16b0] | (simp only [i64_w, i32_w]; rw [c16b0]) | skip)
          by_cases c17 : t228 = true
          ·subst c17
           have H1 : (caravanref1_Mix.j2 kj10 a0 l1 l2 t224 x8_1 x9_1 (!t230)) = some r := by rw [if_pos rfl] at H; exact H
           clear H
           have H := H1
           clear H1
           have H' := Aside0.mk H
           clear H
           go_wp2
           go_meet
           case rel => exact ⟨_, (!t230), (by first | rfl | (simp; done) | (simp [*]; done)), H', ⟨by have := HK1.out; have := HJ10.out; first | omega | exact Nat.le_refl _⟩, ⟨by (with_reducible repeat (first | apply Kd.R_alloc | apply Kd.R_drewN | apply Kd.R_drew)); exact HO_7.out⟩, ⟨by (with_reducible repeat (first | apply Kd.R_alloc | apply Kd.R_drewN | apply Kd.R_drew)); exact HO_8.out⟩, ⟨(qdb35_ HB.out)⟩⟩
          ·replace c17 := Bool.eq_false_iff.mpr c17
           subst c17
           have H1 : (caravanref1_Mix.j2 kj10 a0 l1 l2 t224 x8_1 x9_1 false) = some r := by rw [if_neg (show ¬ (false = true) by decide)] at H; exact H
           clear H
           have H := H1
           clear H1
           have H' := Aside0.mk H
           clear H
           go_wp2
           go_meet
           case rel => exact ⟨_, (false), (by first | rfl | (simp; done) | (simp [*]; done)), H', ⟨by have := HK1.out; have := HJ10.out; first | omega | exact Nat.le_refl _⟩, ⟨by (with_reducible repeat (first | apply Kd.R_alloc | apply Kd.R_drewN | apply Kd.R_drew)); exact HO_7.out⟩, ⟨by (with_reducible repeat (first | apply Kd.R_alloc | apply Kd.R_drewN | apply Kd.R_drew)); exact HO_8.out⟩, ⟨(qdb35_ HB.out)⟩⟩
         ·rw [if_neg c16] at H
          have c16b0 : (a0 == 1) = false := beq_eq_false_iff_ne.mpr c16
          have c16b1 : (a0 != 1) = true := bne_iff_ne.mpr c16
          (first | rw [c16b0] | (simp only [i64_w, i32_w]; rw [c16b0]) | skip)
          by_cases c18 : a0 = 2
          ·rw [if_pos c18] at H
           have c18b0 : (a0 == 2) = true := beq_iff_eq.mpr c18
           have c18b1 : (a0 != 2) = false := bne_eq_false_iff_eq.mpr c18
           clear c18
           by_cases c19 : t228 = true
           ·subst c19
            have H1 : (caravanref1_Mix.j2 kj10 a0 l1 l2 t224 x8_1 x9_1 t230) = some r := by rw [if_pos rfl] at H; exact H
            clear H
            have H := H1
            clear H1
            have H' := Aside0.mk H
            clear H
            go_wp2
            go_meet
            case rel => exact ⟨_, (t230), (by first | rfl | (simp; done) | (simp [*]; done)), H', ⟨by have := HK1.out; have := HJ10.out; first | omega | exact Nat.le_refl _⟩, ⟨by (with_reducible repeat (first | apply Kd.R_alloc | apply Kd.R_drewN | apply Kd.R_drew)); exact HO_7.out⟩, ⟨by (with_reducible repeat (first | apply Kd.R_alloc | apply Kd.R_drewN | apply Kd.R_drew)); exact HO_8.out⟩, ⟨(qdb35_ HB.out)⟩⟩
           ·replace c19 := Bool.eq_false_iff.mpr c19
            subst c19
            have H1 : (caravanref1_Mix.j2 kj10 a0 l1 l2 t224 x8_1 x9_1 false) = some r := by rw [if_neg (show ¬ (false = true) by decide)] at H; exact H
            clear H
            have H := H1
            clear H1
            have H' := Aside0.mk H
            clear H
            go_wp2
            go_meet
            case rel => exact ⟨_, (false), (by first | rfl | (simp; done) | (simp [*]; done)), H', ⟨by have := HK1.out; have := HJ10.out; first | omega | exact Nat.le_refl _⟩, ⟨by (with_reducible repeat (first | apply Kd.R_alloc | apply Kd.R_drewN | apply Kd.R_drew)); exact HO_7.out⟩, ⟨by (with_reducible repeat (first | apply Kd.R_alloc | apply Kd.R_drewN | apply Kd.R_drew)); exact HO_8.out⟩, ⟨(qdb35_ HB.out)⟩⟩
          ·rw [if_neg c18] at H
           have c18b0 : (a0 == 2) = false := beq_eq_false_iff_ne.mpr c18
           have c18b1 : (a0 != 2) = true := bne_iff_ne.mpr c18
           have H' := Aside0.mk H
           clear H
           go_wp2
           go_meet
           case rel => exact ⟨_, (x12_10), (by first | rfl | (simp; done) | (simp [*]; done)), H', ⟨by have := HK1.out; have := HJ10.out; first | omega | exact Nat.le_refl _⟩, ⟨by (with_reducible repeat (first | apply Kd.R_alloc | apply Kd.R_drewN | apply Kd.R_drew)); exact HO_7.out⟩, ⟨by (with_reducible repeat (first | apply Kd.R_alloc | apply Kd.R_drewN | apply Kd.R_drew)); exact HO_8.out⟩, ⟨(qdb35_ HB.out)⟩⟩
        case rest =>
         clear HC15
         try clear c1
         try clear c2
         try clear p2
         try clear q2
         try clear hx2
         try clear c3
         try clear c6
         try clear c6b0
         try clear p6
         try clear c7
         try clear c7b0
         try clear c8
         try clear c8b0
         try clear c14
         try clear c16
         try clear c16b0
         try clear c16b1
         try clear c17
         try clear c18
         try clear c18b0
         try clear c18b1
         try clear c19
         try clear hx227_0
         try clear hx229_0
         try clear p2
         try clear p227
         try clear p229
         try clear p6
         try clear q2
         try clear q227
         try clear q229
         obtain ⟨kq, x12_14, rfl, HA, HJ14, HO_7, HO_8, HB⟩ := hcut
         cases kq with
         | zero => exact absurd HA.out (by simp [caravanref1_Mix.j2])
         | succ kj14 =>
          have H := HA.out
          clear HA
          simp only [caravanref1_Mix.j2] at H
          by_cases c20 : x12_14 = true
          ·subst c20
           have H1 : (if (x8_1.length : Int) > 0 then (if 0 ≤ (wrap64 ((x8_1.length : Int) - 1)) then (if (wrap64 ((x8_1.length : Int) - 1)) < (x8_1.length : Int) then (if 0 ≤ x9_1 then (if x9_1 < (t224.length : Int) then (if ((rd_T31 x8_1 (wrap64 ((x8_1.length : Int) - 1))).f1) = (wrap64 ((rd t224 x9_1) - 1)) then (if 0 ≤ (wrap64 (x9_1 + 1)) then (if (wrap64 (x9_1 + 1)) < (t224.length : Int) then (caravanref1_Mix.l0 kj14 a0 l1 l2 t224 (x8_1.set ((wrap64 ((x8_1.length : Int) - 1)) : Int).toNat (⟨(rd_T31 x8_1 (wrap64 ((x8_1.length : Int) - 1))).f0, wrap64 ((rd t224 (wrap64 (x9_1 + 1))) - 1)⟩ : S31)) (wrap64 (x9_1 + 1))) else (none)) else (none)) else (if 0 ≤ (wrap64 (x9_1 + 1)) then (if (wrap64 (x9_1 + 1)) < (t224.length : Int) then (if x8_1.length < 8796093022208 then (caravanref1_Mix.l0 kj14 a0 l1 l2 t224 (x8_1 ++ [(⟨rd t224 x9_1, wrap64 ((rd t224 (wrap64 (x9_1 + 1))) - 1)⟩ : S31)]) (wrap64 (x9_1 + 1))) else (none)) else (none)) else (none))) else (none)) else (none)) else (none)) else (none)) else (if 0 ≤ x9_1 then (if x9_1 < (t224.length : Int) then (if 0 ≤ (wrap64 (x9_1 + 1)) then (if (wrap64 (x9_1 + 1)) < (t224.length : Int) then (if x8_1.length < 8796093022208 then (caravanref1_Mix.l0 kj14 a0 l1 l2 t224 (x8_1 ++ [(⟨rd t224 x9_1, wrap64 ((rd t224 (wrap64 (x9_1 + 1))) - 1)⟩ : S31)]) (wrap64 (x9_1 + 1))) else (none)) else (none)) else (none)) else (none)) else (none))) = some r := by rw [if_pos rfl] at H; exact H
           clear H
           have H := H1
           clear H1
           by_cases c21 : (x8_1.length : Int) > 0
           ·rw [if_pos c21] at H
            have c21b0 : decide (0 < (x8_1.length : Int)) = true := decide_eq_true c21
            have c21b1 : decide (0 < x8_1.length) = true := decide_eq_true (by omega)
            clear c21
            obtain ⟨ji22, hji22⟩ : ∃ j_ : Int, (wrap64 ((x8_1.length : Int) - 1)) = j_ := ⟨_, rfl⟩
            replace H : (if 0 ≤ (ji22) then (if (ji22) < (x8_1.length : Int) then (if 0 ≤ x9_1 then (if x9_1 < (t224.length : Int) then (if ((rd_T31 x8_1 (ji22)).f1) = (wrap64 ((rd t224 x9_1) - 1)) then (if 0 ≤ (wrap64 (x9_1 + 1)) then (if (wrap64 (x9_1 + 1)) < (t224.length : Int) then (caravanref1_Mix.l0 kj14 a0 l1 l2 t224 (x8_1.set ((ji22) : Int).toNat (⟨(rd_T31 x8_1 (ji22)).f0, wrap64 ((rd t224 (wrap64 (x9_1 + 1))) - 1)⟩ : S31)) (wrap64 (x9_1 + 1))) else (none)) else (none)) else (if 0 ≤ (wrap64 (x9_1 + 1)) then (if (wrap64 (x9_1 + 1)) < (t224.length : Int) then (if x8_1.length < 8796093022208 then (caravanref1_Mix.l0 kj14 a0 l1 l2 t224 (x8_1 ++ [(⟨rd t224 x9_1, wrap64 ((rd t224 (wrap64 (x9_1 + 1))) - 1)⟩ : S31)]) (wrap64 (x9_1 + 1))) else (none)) else (none)) else (none))) else (none)) else (none)) else (none)) else (none)) = some r := by first | (rw [hji22] at H; exact H) | (simp only [hji22] at H ⊢; exact H)
            have hji22w : (IntKind.i64.wrap ((x8_1.length : Int) - 1)) = ji22 := (i64_w _).trans hji22
            by_cases c23 : 0 ≤ (ji22)
            ·rw [if_pos c23] at H
             have c23b0 : decide (0 ≤ (ji22)) = true := decide_eq_true c23
             clear c23
             by_cases c24 : (ji22) < (x8_1.length : Int)
             ·rw [if_pos c24] at H
              have c24b0 : decide ((ji22) < (x8_1.length : Int)) = true := decide_eq_true c24
              clear c24
              by_cases c25 : 0 ≤ x9_1
              ·rw [if_pos c25] at H
               have c25b0 : decide (0 ≤ x9_1) = true := decide_eq_true c25
               clear c25
               by_cases c26 : x9_1 < (t224.length : Int)
               ·rw [if_pos c26] at H
                have c26b0 : decide (x9_1 < (t224.length : Int)) = true := decide_eq_true c26
                clear c26
                by_cases c27 : ((rd_T31 x8_1 (ji22)).f1) = (wrap64 ((rd t224 x9_1) - 1))
                ·rw [if_pos c27] at H
                 have c27b0 : (((rd_T31 x8_1 (ji22)).f1) == (wrap64 ((rd t224 x9_1) - 1))) = true := beq_iff_eq.mpr c27
                 have c27b1 : (((rd_T31 x8_1 (ji22)).f1) != (wrap64 ((rd t224 x9_1) - 1))) = false := bne_eq_false_iff_eq.mpr c27
                 clear c27
                 obtain ⟨ji28, hji28⟩ : ∃ j_ : Int, (wrap64 (x9_1 + 1)) = j_ := ⟨_, rfl⟩
                 replace H : (if 0 ≤ (ji28) then (if (ji28) < (t224.length : Int) then (caravanref1_Mix.l0 kj14 a0 l1 l2 t224 (x8_1.set ((ji22) : Int).toNat (⟨(rd_T31 x8_1 (ji22)).f0, wrap64 ((rd t224 (ji28)) - 1)⟩ : S31)) ji28) else (none)) else (none)) = some r := by first | (rw [hji28] at H; exact H) | (simp only [hji28] at H ⊢; exact H)
                 (try rw [hji28] at c6b0)
                 have hji28w : (IntKind.i64.wrap (x9_1 + 1)) = ji28 := (i64_w _).trans hji28
                 by_cases c29 : 0 ≤ (ji28)
                 ·rw [if_pos c29] at H
                  have c29b0 : decide (0 ≤ (ji28)) = true := decide_eq_true c29
                  clear c29
                  by_cases c30 : (ji28) < (t224.length : Int)
                  ·rw [if_pos c30] at H
                   have c30b0 : decide ((ji28) < (t224.length : Int)) = true := decide_eq_true c30
                   clear c30
                   obtain ⟨y234, hy234⟩ : ∃ y_ : List (S31), y_ = (x8_1.set ((ji22) : Int).toNat (⟨(rd_T31 x8_1 (ji22)).f0, wrap64 ((rd t224 (ji28)) - 1)⟩ : S31)) := ⟨_, rfl⟩
                   replace H : (caravanref1_Mix.l0 kj14 a0 l1 l2 t224 y234 ji28) = some r := by first | (rw [hy234]; with_reducible exact H) | (have H2_ := (Option.bind_some _ _).symm.trans H; rw [hy234]; with_reducible exact H2_) | (have H2_ := (Option.bind_some _ _).symm.trans H; with_reducible exact H2_) | with_reducible exact H | (rw [hy234]; exact H) | exact H
                   have Ny234 := Aside0.mk hy234
                   clear hy234
                   have H' := Aside0.mk H
                   clear H
                   try go_wp2
                   have n0_ := Aside0.mk (Kd.R_drew HO_7.out)
                   have n1_ := Aside0.mk (Kd.R_drew HO_8.out)
                   have n2_ := Aside0.mk (below_drew1 HB.out)
                   clear HO_7
                   clear HO_8
                   clear HB
                   have HO_7 := n0_
                   have HO_8 := n1_
                   have HB := n2_
                   clear n0_ n1_ n2_
                   obtain ⟨Ao33, co33, eo33⟩ := Kd.R_slice HO_8.out
                   (first | subst eo33 | (injection eo33 with f1_ f2_ f3_; have f4_ := f1_.symm; have f5_ := f3_.symm; clear f1_ f2_ f3_; subst f4_; subst f5_))
                   have p231 : 0 ≤ ((ji22) : Int) := of_decide_eq_true (by first | (with_reducible assumption) | assumption)
                   have q231 : (ji22) < (x8_1.length : Int) := of_decide_eq_true (by first | (with_reducible assumption) | assumption)
                   obtain ⟨ad231, e231, hx231_0, hx231_1⟩ := at_T31 (Kd.R_reads' HO_8.out).2.2 (ji22) p231 q231
                   cases e231
                   replace p231 := eq_true p231
                   replace q231 := eq_true q231
                   have p232 : 0 ≤ (x9_1 : Int) := of_decide_eq_true (by first | (with_reducible assumption) | assumption)
                   have q232 : x9_1 < (t224.length : Int) := of_decide_eq_true (by first | (with_reducible assumption) | assumption)
                   obtain ⟨ad232, e232, hx232_0⟩ := Kd.at_int (Kd.R_reads' HO_7.out).2.2 x9_1 p232 q232
                   obtain rfl : ad227 = ad232 := (by injection e232)
                   replace p232 := eq_true p232
                   replace q232 := eq_true q232
                   refine start_ (n := 19) (S := fun w' => w'.cell? (ad231.add (((ji22)).toNat * 2)) = some (.int .i64 ((rd_T31 x8_1 (ji22)).f0)) ∧ w'.cell? ⟨(ad231.add (((ji22)).toNat * 2)).block, (ad231.add (((ji22)).toNat * 2)).off + 1, none⟩ = some (.int .i64 ((rd_T31 x8_1 (ji22)).f1)) ∧ w'.cell? (ad227.add (x9_1).toNat) = some (.int .i64 (rd t224 x9_1))) (ds := []) (ml_ 19 0) (by kernel_rfl) rfl rfl ⟨hx231_0, hx231_1, hx232_0⟩ (fun hHeld => ?_); refine with_tabW caravanref1_Mix.tab15 caravanref1_Mix.bits15 (fun HT_ HW_ => ?_)
                   generalize wc.drew = w32 at HO_7 HO_8 HB hx231_0 hx231_1 hx232_0 hHeld ⊢
                   refine pA_ 0 71 (ml_ 19 1) rfl rfl HT_.out ?_
                   refine pA_ 1 72 (ml_ 19 3) rfl rfl HT_.out ?_
                   refine pA_ 2 73 (ml_ 19 7) rfl rfl HT_.out ?_
                   refine pA_ 3 74 (ml_ 19 15) rfl rfl HT_.out ?_
                   refine pA_ 4 75 (ml_ 19 31) rfl rfl HT_.out ?_
                   refine pA_ 5 76 (ml_ 19 63) rfl rfl HT_.out ?_
                   refine pA_ 6 77 (ml_ 19 127) rfl rfl HT_.out ?_
                   refine pA_ 7 78 (ml_ 19 255) rfl rfl HT_.out ?_
                   refine pA_ 8 79 (ml_ 19 511) rfl rfl HT_.out ?_
                   refine pA_ 9 80 (ml_ 19 1023) rfl rfl HT_.out ?_
                   refine pA_ 11 82 (ml_ 19 3071) rfl rfl HT_.out ?_
                   refine pA_ 12 83 (ml_ 19 7167) rfl rfl HT_.out ?_
                   refine pA_ 13 84 (ml_ 19 15359) rfl rfl HT_.out ?_
                   refine t3_ 10 81 (ml_ 19 16383) rfl rfl HT_.out HW_.out hHeld ?_
                   refine t3_ 14 85 (ml_ 19 32767) rfl rfl HT_.out HW_.out hHeld ?_
                   refine pA_ 15 86 (ml_ 19 65535) rfl rfl HT_.out ?_
                   refine pA_ 16 87 (ml_ 19 131071) rfl rfl HT_.out ?_
                   refine pA_ 17 88 (ml_ 19 262143) rfl rfl HT_.out ?_
                   refine pA_ 18 70 (ml_ 19 524287) rfl rfl HT_.out ?_
                   refine done_ (done_of HT_.out (by kernel_rfl)) ?_
                   have p233 : 0 ≤ ((ji28) : Int) := of_decide_eq_true (by first | (with_reducible assumption) | assumption)
                   have q233 : (ji28) < (t224.length : Int) := of_decide_eq_true (by first | (with_reducible assumption) | assumption)
                   obtain ⟨ad233, e233, hx233_0⟩ := Kd.at_int (Kd.R_reads' HO_7.out).2.2 (ji28) p233 q233
                   obtain rfl : ad227 = ad233 := (by injection e233)
                   replace p233 := eq_true p233
                   replace q233 := eq_true q233
                   have p31 : 0 ≤ ((ji22) : Int) := of_decide_eq_true (by first | (with_reducible assumption) | assumption)
                   have q31 : ((ji22) : Int) < ((x8_1.length : Int) : Int) := of_decide_eq_true (by first | (with_reducible assumption) | assumption)
                   obtain ⟨go31, co31, eo31, gb31, gl31, cl31, HG31⟩ := Kd.R_form HO_8.out (by omega)
                   (first | cases eo31 | (injection eo31 with ea_ en_ ec_; (first | subst ea_ | (injection ea_ with ea_; subst ea_)); subst ec_; clear en_))
                   have GB31 := Aside0.mk gb31
                   have GG31 := Aside0.mk HG31
                   clear gb31 gl31 HG31
                   (first | simp only [add_plain] at hx231_0 | skip)
                   (first | simp only [add_plain] at hx231_1 | skip)
                   obtain ⟨ce31, hcl31, hM31, hcc31, hfr31⟩ := Kd.R_elem HO_8.out z31 ((ji22) : Int) p31 q31
                   obtain rfl := k31_openM hM31
                   have hx31_0 : w32.cell? ⟨go31, ((ji22) : Int).toNat * 2, none⟩ = some (.int .i64 ((rd_T31 x8_1 (ji22)).f0)) := hcc31 0 _ rfl
                   have hx31_1 : w32.cell? ⟨go31, ((ji22) : Int).toNat * 2 + 1, none⟩ = some (.int .i64 ((rd_T31 x8_1 (ji22)).f1)) := hcc31 1 _ rfl
                   have hf31_0 : w32.frozen? ⟨go31, ((ji22) : Int).toNat * 2, none⟩ = false := hfr31 0
                   have hf31_1 : w32.frozen? ⟨go31, ((ji22) : Int).toNat * 2 + 1, none⟩ = false := hfr31 1
                   clear hcl31 hcc31 hfr31 hM31
                   replace p31 := eq_true p31
                   replace q31 := eq_true q31
                   have HX34 := Aside0.mk (show Kd.R k31 31 w32 w.heap.size (fun _ => True) (.slice (some ⟨go31, 0, none⟩) x8_1.length co33) x8_1 from (q8524_ HO_8.out))
                   obtain ⟨ce34, hcl34, hM34, hcc34, hfr34⟩ := Kd.R_elem HX34.out z31 ((ji22) : Int) (of_decide_eq_true (by first | (with_reducible assumption) | assumption)) (by have h_ : ((ji22) : Int) < ((x8_1.length : Int) : Int) := of_decide_eq_true (by first | (with_reducible assumption) | assumption); first | exact h_ | (have e_ := (Kd.R_reads' HO_8.out).1; omega) | simpa using h_)
                   obtain rfl := k31_openM hM34
                   have HP34 := Kd.R_seg HX34.out ((ji22) : Int) (of_decide_eq_true (by first | (with_reducible assumption) | assumption)) (by have h_ : ((ji22) : Int) < ((x8_1.length : Int) : Int) := of_decide_eq_true (by first | (with_reducible assumption) | assumption); first | exact h_ | (have e_ := (Kd.R_reads' HO_8.out).1; omega) | simpa using h_) (seg := [.int .i64 (wrap64 ((rd t224 (ji28)) - 1))]) (j := 1) hcl34 hcc34 (show 2 ≤ 2 from by decide) (x' := (⟨(rd_T31 x8_1 (ji22)).f0, wrap64 ((rd t224 (ji28)) - 1)⟩ : S31)) (k31_mkM _ _ _ (⟨(rd_T31 x8_1 (ji22)).f0, wrap64 ((rd t224 (ji28)) - 1)⟩ : S31) ) (fun _ hk => hk)
                   have hx34_1 := hcc34 1 _ rfl
                   (try simp only [show (k31).sz = 2 from rfl, Nat.mul_one, Nat.add_zero] at hx34_1)
                   have hf34_1 := hfr34 1
                   (try simp only [show (k31).sz = 2 from rfl, Nat.mul_one, Nat.add_zero] at hf34_1)
                   clear hcl34 hcc34 hfr34 hM34
                   try go_wp2_with (first | ((with_reducible refine gate_store (t := 3) (p := 100) rfl ?_); refine store_event (t := 3) (p := 100) (v := ?vo_w35) (w1 := (w32.setCell ⟨go31, ((ji22) : Int).toNat * 2 + 1, none⟩ (.int .i64 (wrap64 ((rd t224 (ji28)) - 1))))) ?hg ?ho ?hn ?hr ?_; (case ho => rfl); (case hg => rfl); (case hn => rfl); (case hr => first | (go_simp; done) | (go_simp; rfl)); intro w35 hw; have hg : w32.grownBy w35 (some go31) := (by rw [hw]; exact HP34.2); have hp_ : Kd.R k31 31 w35 w.heap.size (fun _ => True) (.slice (some ⟨go31, 0, none⟩) x8_1.length co33) y234 := (by rw [hw, Ny234.out]; exact HP34.1); clear HP34; have n0_ := Aside0.mk (Kd.R_over' (v := (.slice (some ⟨go31, 0, none⟩) x8_1.length co33)) (q8524_ HO_7.out) (Kd.R_typed HO_8.out) (by decide) hg); have n1_ := Aside0.mk (hp_); have n2_ := Aside0.mk ((by rw [hw]; exact below_set (HB.out) GB31.out : Below w.heap.size w w35)); clear HO_7; clear HO_8; clear HB; have HO_7 := n0_; have HO_8 := n1_; have HB := n2_; clear n0_ n1_ n2_; clear hg hw hp_))
                   go_roundg kj14
                   case measure => have := HK1.out; have := HJ10.out; have := HJ14.out; omega
                   case rel => exact ⟨(y234), (ji28), (by first | rfl | (simp; done) | (simp only [← hji28] <;> (first | rfl | simp)) | (simp [*]; done)), H', ⟨by have := HK1.out; have := HJ10.out; have := HJ14.out; omega⟩, ⟨by (with_reducible repeat (first | apply Kd.R_alloc | apply Kd.R_drewN | apply Kd.R_drew)); exact HO_7.out⟩, ⟨by (with_reducible repeat (first | apply Kd.R_alloc | apply Kd.R_drewN | apply Kd.R_drew)); exact HO_8.out⟩, ⟨(qdb35_ HB.out)⟩⟩
                  ·rw [if_neg c30] at H
                   exact absurd H (by simp)
                 ·rw [if_neg c29] at H
                  exact absurd H (by simp)
                ·rw [if_neg c27] at H
                 have c27b0 : (((rd_T31 x8_1 (ji22)).f1) == (wrap64 ((rd t224 x9_1) - 1))) = false := beq_eq_false_iff_ne.mpr c27
                 have c27b1 : (((rd_T31 x8_1 (ji22)).f1) != (wrap64 ((rd t224 x9_1) - 1))) = true := bne_iff_ne.mpr c27
                 obtain ⟨ji36, hji36⟩ : ∃ j_ : Int, (wrap64 (x9_1 + 1)) = j_ := ⟨_, rfl⟩
                 replace H : (if 0 ≤ (ji36) then (if (ji36) < (t224.length : Int) then (if x8_1.length < 8796093022208 then (caravanref1_Mix.l0 kj14 a0 l1 l2 t224 (x8_1 ++ [(⟨rd t224 x9_1, wrap64 ((rd t224 (ji36)) - 1)⟩ : S31)]) ji36) else (none)) else (none)) else (none)) = some r := by first | (rw [hji36] at H; exact H) | (simp only [hji36] at H ⊢; exact H)
                 (try rw [hji36] at c6b0)
                 have hji36w : (IntKind.i64.wrap (x9_1 + 1)) = ji36 := (i64_w _).trans hji36
                 by_cases c37 : 0 ≤ (ji36)
                 ·rw [if_pos c37] at H
                  have c37b0 : decide (0 ≤ (ji36)) = true := decide_eq_true c37
                  clear c37
                  by_cases c38 : (ji36) < (t224.length : Int)
                  ·rw [if_pos c38] at H
                   have c38b0 : decide ((ji36) < (t224.length : Int)) = true := decide_eq_true c38
                   clear c38
                   by_cases c39 : x8_1.length < 8796093022208
                   ·rw [if_pos c39] at H
                    have LMc39 := Aside0.mk c39
                    clear c39
                    obtain ⟨y237, hy237⟩ : ∃ y_ : List (S31), y_ = (x8_1 ++ [(⟨rd t224 x9_1, wrap64 ((rd t224 (ji36)) - 1)⟩ : S31)]) := ⟨_, rfl⟩
                    replace H : (caravanref1_Mix.l0 kj14 a0 l1 l2 t224 y237 ji36) = some r := by first | (rw [hy237]; with_reducible exact H) | (have H2_ := (Option.bind_some _ _).symm.trans H; rw [hy237]; with_reducible exact H2_) | (have H2_ := (Option.bind_some _ _).symm.trans H; with_reducible exact H2_) | with_reducible exact H | (rw [hy237]; exact H) | exact H
                    have Ny237 := Aside0.mk hy237
                    clear hy237
                    have H' := Aside0.mk H
                    clear H
                    try go_wp2
                    have n0_ := Aside0.mk (Kd.R_drew HO_7.out)
                    have n1_ := Aside0.mk (Kd.R_drew HO_8.out)
                    have n2_ := Aside0.mk (below_drew1 HB.out)
                    clear HO_7
                    clear HO_8
                    clear HB
                    have HO_7 := n0_
                    have HO_8 := n1_
                    have HB := n2_
                    clear n0_ n1_ n2_
                    obtain ⟨Ao41, co41, eo41⟩ := Kd.R_slice HO_8.out
                    (first | subst eo41 | (injection eo41 with f1_ f2_ f3_; have f4_ := f1_.symm; have f5_ := f3_.symm; clear f1_ f2_ f3_; subst f4_; subst f5_))
                    have p231 : 0 ≤ ((ji22) : Int) := of_decide_eq_true (by first | (with_reducible assumption) | assumption)
                    have q231 : (ji22) < (x8_1.length : Int) := of_decide_eq_true (by first | (with_reducible assumption) | assumption)
                    obtain ⟨ad231, e231, hx231_0, hx231_1⟩ := at_T31 (Kd.R_reads' HO_8.out).2.2 (ji22) p231 q231
                    cases e231
                    replace p231 := eq_true p231
                    replace q231 := eq_true q231
                    have p232 : 0 ≤ (x9_1 : Int) := of_decide_eq_true (by first | (with_reducible assumption) | assumption)
                    have q232 : x9_1 < (t224.length : Int) := of_decide_eq_true (by first | (with_reducible assumption) | assumption)
                    obtain ⟨ad232, e232, hx232_0⟩ := Kd.at_int (Kd.R_reads' HO_7.out).2.2 x9_1 p232 q232
                    obtain rfl : ad227 = ad232 := (by injection e232)
                    replace p232 := eq_true p232
                    replace q232 := eq_true q232
                    refine start_ (n := 19) (S := fun w' => w'.cell? (ad231.add (((ji22)).toNat * 2)) = some (.int .i64 ((rd_T31 x8_1 (ji22)).f0)) ∧ w'.cell? ⟨(ad231.add (((ji22)).toNat * 2)).block, (ad231.add (((ji22)).toNat * 2)).off + 1, none⟩ = some (.int .i64 ((rd_T31 x8_1 (ji22)).f1)) ∧ w'.cell? (ad227.add (x9_1).toNat) = some (.int .i64 (rd t224 x9_1))) (ds := []) (ml_ 19 0) (by kernel_rfl) rfl rfl ⟨hx231_0, hx231_1, hx232_0⟩ (fun hHeld => ?_); refine with_tabW caravanref1_Mix.tab15 caravanref1_Mix.bits15 (fun HT_ HW_ => ?_)
                    generalize wc.drew = w40 at HO_7 HO_8 HB hx231_0 hx231_1 hx232_0 hHeld ⊢
                    refine pA_ 0 71 (ml_ 19 1) rfl rfl HT_.out ?_
                    refine pA_ 1 72 (ml_ 19 3) rfl rfl HT_.out ?_
                    refine pA_ 2 73 (ml_ 19 7) rfl rfl HT_.out ?_
                    refine pA_ 3 74 (ml_ 19 15) rfl rfl HT_.out ?_
                    refine pA_ 4 75 (ml_ 19 31) rfl rfl HT_.out ?_
                    refine pA_ 5 76 (ml_ 19 63) rfl rfl HT_.out ?_
                    refine pA_ 6 77 (ml_ 19 127) rfl rfl HT_.out ?_
                    refine pA_ 7 78 (ml_ 19 255) rfl rfl HT_.out ?_
                    refine pA_ 8 79 (ml_ 19 511) rfl rfl HT_.out ?_
                    refine pA_ 9 80 (ml_ 19 1023) rfl rfl HT_.out ?_
                    refine pA_ 11 82 (ml_ 19 3071) rfl rfl HT_.out ?_
                    refine pA_ 12 83 (ml_ 19 7167) rfl rfl HT_.out ?_
                    refine pA_ 13 84 (ml_ 19 15359) rfl rfl HT_.out ?_
                    refine t3_ 10 81 (ml_ 19 16383) rfl rfl HT_.out HW_.out hHeld ?_
                    refine t3_ 14 85 (ml_ 19 32767) rfl rfl HT_.out HW_.out hHeld ?_
                    refine pA_ 15 86 (ml_ 19 65535) rfl rfl HT_.out ?_
                    refine pA_ 16 87 (ml_ 19 131071) rfl rfl HT_.out ?_
                    refine pA_ 17 88 (ml_ 19 262143) rfl rfl HT_.out ?_
                    refine pA_ 18 70 (ml_ 19 524287) rfl rfl HT_.out ?_
                    refine done_ (done_of HT_.out (by kernel_rfl)) ?_
                    try go_wp2
                    have n0_ := Aside0.mk (Kd.R_drew HO_7.out)
                    have n1_ := Aside0.mk (Kd.R_drew HO_8.out)
                    have n2_ := Aside0.mk (below_drew1 HB.out)
                    clear HO_7
                    clear HO_8
                    clear HB
                    have HO_7 := n0_
                    have HO_8 := n1_
                    have HB := n2_
                    clear n0_ n1_ n2_
                    have p235 : 0 ≤ (x9_1 : Int) := of_decide_eq_true (by first | (with_reducible assumption) | assumption)
                    have q235 : x9_1 < (t224.length : Int) := of_decide_eq_true (by first | (with_reducible assumption) | assumption)
                    obtain ⟨ad235, e235, hx235_0⟩ := Kd.at_int (Kd.R_reads' HO_7.out).2.2 x9_1 p235 q235
                    obtain rfl : ad227 = ad235 := (by injection e235)
                    replace p235 := eq_true p235
                    replace q235 := eq_true q235
                    have p236 : 0 ≤ ((ji36) : Int) := of_decide_eq_true (by first | (with_reducible assumption) | assumption)
                    have q236 : (ji36) < (t224.length : Int) := of_decide_eq_true (by first | (with_reducible assumption) | assumption)
                    obtain ⟨ad236, e236, hx236_0⟩ := Kd.at_int (Kd.R_reads' HO_7.out).2.2 (ji36) p236 q236
                    obtain rfl : ad227 = ad236 := (by injection e236)
                    replace p236 := eq_true p236
                    replace q236 := eq_true q236
                    refine start_ (n := 15) (S := fun w' => w'.cell? (ad227.add (x9_1).toNat) = some (.int .i64 (rd t224 x9_1)) ∧ w'.cell? (ad227.add ((ji36)).toNat) = some (.int .i64 (rd t224 (ji36)))) (ds := [12, 13]) (ml_ 15 0) (by kernel_rfl) rfl rfl ⟨hx235_0, hx236_0⟩ (fun hHeld => ?_); refine with_tabW caravanref1_Mix.tab13 caravanref1_Mix.bits13 (fun HT_ HW_ => ?_)
                    generalize w40.drew = w42 at HO_7 HO_8 HB hx235_0 hx236_0 hHeld ⊢
                    refine pA_ 0 53 (ml_ 15 1) rfl rfl HT_.out ?_
                    refine pA_ 1 54 (ml_ 15 3) rfl rfl HT_.out ?_
                    refine pA_ 2 55 (ml_ 15 7) rfl rfl HT_.out ?_
                    refine pA_ 3 56 (ml_ 15 15) rfl rfl HT_.out ?_
                    refine pA_ 5 58 (ml_ 15 47) rfl rfl HT_.out ?_
                    refine pA_ 6 59 (ml_ 15 111) rfl rfl HT_.out ?_
                    refine pA_ 7 60 (ml_ 15 239) rfl rfl HT_.out ?_
                    refine pA_ 8 61 (ml_ 15 495) rfl rfl HT_.out ?_
                    refine t2_ 4 57 (ml_ 15 511) rfl rfl HT_.out HW_.out hHeld ?_
                    refine t2_ 9 62 (ml_ 15 1023) rfl rfl HT_.out HW_.out hHeld ?_
                    refine pA_ 10 63 (ml_ 15 2047) rfl rfl HT_.out ?_
                    refine pA_ 11 64 (ml_ 15 4095) rfl rfl HT_.out ?_
                    refine last_ (i := 12) (N := some 65) (ml_ 15 8191) rfl rfl (one_of HT_.out (by kernel_rfl)) (by decide) (fun K hK => ?_)
                    refine value_ (w1 := ?_) (v := ?_) (by rfl) rfl ?_ ?_
                    rotate_left 2
                    ·go_simp
                     constructor
                     ·rfl
                     ·rfl
                    refine hK.out _ _ ?_
                    clear hK K
                    refine nA_ 65 ?_
                    refine last_ (i := 13) (N := some 66) (ml_ 15 16383) rfl rfl (one_of HT_.out (by kernel_rfl)) (by decide) (fun K hK => ?_)
                    refine Kd.R_append_step k31 (w0 := w) w.heap.size (by rfl) (.tmp 53) (.tmp 65) 23 31 (.agg #[(.int .i64 0), (.int .i64 0)]) 16 rfl Tryd.underlying23 info31 rfl (by decide) (by omega) (.slice (some ad231) x8_1.length co41) x8_1 (⟨rd t224 x9_1, wrap64 ((rd t224 (ji36)) - 1)⟩ : S31) [.int .i64 (rd t224 x9_1), .int .i64 (wrap64 ((rd t224 (ji36)) - 1))] (fun _ => True) (fun _ => False) rfl rfl ?aP (fun _ hk => hk.elim) ?aF ?aO ?aB ?aS ?aL ?_
                    (case aP => exact k31_mkM _ _ _ (⟨rd t224 x9_1, wrap64 ((rd t224 (ji36)) - 1)⟩ : S31))
                    (case aB => exact (qdb35_ HB.out))
                    (case aF => exact (fun _ _ => trivial))
                    (case aO => exact (q8524_ HO_8.out))
                    (case aS => exact (below_size (qdb35_ HB.out)))
                    (case aL => have := LMc39.out; omega)
                    intro v238 w43 ho hb hg hat
                    rw [← Ny237.out] at ho
                    have n0_ := Aside0.mk (Kd.R_over' (q8524_ HO_7.out) (Kd.R_typed (q8524_ HO_8.out)) (by decide) hg)
                    have n1_ := Aside0.mk (hb)
                    have n2_ := Aside0.mk (ho)
                    clear HO_7
                    clear HB
                    clear HO_8
                    have HO_7 := n0_
                    have HB := n1_
                    have HO239 := n2_
                    clear n0_ n1_ n2_
                    clear ho hb hg hat
                    refine hK.out _ _ ?_
                    clear hK K
                    refine nA_ 66 ?_
                    refine pA_ 14 8 (ml_ 15 32767) rfl rfl HT_.out ?_
                    refine done_ (done_of HT_.out (by kernel_rfl)) ?_
                    try go_wp2
                    go_roundg kj14
                    case measure => have := HK1.out; have := HJ10.out; have := HJ14.out; omega
                    case rel => exact ⟨(y237), (ji36), (by first | rfl | (simp; done) | (simp only [← hji36] <;> (first | rfl | simp)) | (simp [*]; done)), H', ⟨by have := HK1.out; have := HJ10.out; have := HJ14.out; omega⟩, ⟨by (with_reducible repeat (first | apply Kd.R_alloc | apply Kd.R_drewN | apply Kd.R_drew)); exact HO_7.out⟩, ⟨by (with_reducible repeat (first | apply Kd.R_alloc | apply Kd.R_drewN | apply Kd.R_drew)); exact HO239.out⟩, ⟨(qdb35_ HB.out)⟩⟩
                   ·rw [if_neg c39] at H
                    exact absurd H (by simp)
                  ·rw [if_neg c38] at H
                   exact absurd H (by simp)
                 ·rw [if_neg c37] at H
                  exact absurd H (by simp)
               ·rw [if_neg c26] at H
                exact absurd H (by simp)
              ·rw [if_neg c25] at H
               exact absurd H (by simp)
             ·rw [if_neg c24] at H
              exact absurd H (by simp)
            ·rw [if_neg c23] at H
             exact absurd H (by simp)
           ·rw [if_neg c21] at H
            have c21b0 : decide (0 < (x8_1.length : Int)) = false := decide_eq_false c21
            have c21b1 : decide (0 < x8_1.length) = false := decide_eq_false (by omega)
            clear c21
            by_cases c44 : 0 ≤ x9_1
            ·rw [if_pos c44] at H
             have c44b0 : decide (0 ≤ x9_1) = true := decide_eq_true c44
             clear c44
             by_cases c45 : x9_1 < (t224.length : Int)
             ·rw [if_pos c45] at H
              have c45b0 : decide (x9_1 < (t224.length : Int)) = true := decide_eq_true c45
              clear c45
              obtain ⟨ji46, hji46⟩ : ∃ j_ : Int, (wrap64 (x9_1 + 1)) = j_ := ⟨_, rfl⟩
              replace H : (if 0 ≤ (ji46) then (if (ji46) < (t224.length : Int) then (if x8_1.length < 8796093022208 then (caravanref1_Mix.l0 kj14 a0 l1 l2 t224 (x8_1 ++ [(⟨rd t224 x9_1, wrap64 ((rd t224 (ji46)) - 1)⟩ : S31)]) ji46) else (none)) else (none)) else (none)) = some r := by first | (rw [hji46] at H; exact H) | (simp only [hji46] at H ⊢; exact H)
              (try rw [hji46] at c6b0)
              have hji46w : (IntKind.i64.wrap (x9_1 + 1)) = ji46 := (i64_w _).trans hji46
              by_cases c47 : 0 ≤ (ji46)
              ·rw [if_pos c47] at H
               have c47b0 : decide (0 ≤ (ji46)) = true := decide_eq_true c47
               clear c47
               by_cases c48 : (ji46) < (t224.length : Int)
               ·rw [if_pos c48] at H
                have c48b0 : decide ((ji46) < (t224.length : Int)) = true := decide_eq_true c48
                clear c48
                by_cases c49 : x8_1.length < 8796093022208
                ·rw [if_pos c49] at H
                 have LMc49 := Aside0.mk c49
                 clear c49
                 obtain ⟨y242, hy242⟩ : ∃ y_ : List (S31), y_ = (x8_1 ++ [(⟨rd t224 x9_1, wrap64 ((rd t224 (ji46)) - 1)⟩ : S31)]) := ⟨_, rfl⟩
                 replace H : (caravanref1_Mix.l0 kj14 a0 l1 l2 t224 y242 ji46) = some r := by first | (rw [hy242]; with_reducible exact H) | (have H2_ := (Option.bind_some _ _).symm.trans H; rw [hy242]; with_reducible exact H2_) | (have H2_ := (Option.bind_some _ _).symm.trans H; with_reducible exact H2_) | with_reducible exact H | (rw [hy242]; exact H) | exact H
                 have Ny242 := Aside0.mk hy242
                 clear hy242
                 have H' := Aside0.mk H
                 clear H
                 try go_wp2
                 have n0_ := Aside0.mk (Kd.R_drew HO_7.out)
                 have n1_ := Aside0.mk (Kd.R_drew HO_8.out)
                 have n2_ := Aside0.mk (below_drew1 HB.out)
                 clear HO_7
                 clear HO_8
                 clear HB
                 have HO_7 := n0_
                 have HO_8 := n1_
                 have HB := n2_
                 clear n0_ n1_ n2_
                 obtain ⟨Ao51, co51, eo51⟩ := Kd.R_slice HO_8.out
                 (first | subst eo51 | (injection eo51 with f1_ f2_ f3_; have f4_ := f1_.symm; have f5_ := f3_.symm; clear f1_ f2_ f3_; subst f4_; subst f5_))
                 refine start_ (n := 19) (S := fun w' => True) (ds := []) (ml_ 19 0) (by kernel_rfl) rfl rfl trivial (fun hHeld => ?_); refine with_tabW caravanref1_Mix.tab15 caravanref1_Mix.bits15 (fun HT_ HW_ => ?_)
                 generalize wc.drew = w50 at HO_7 HO_8 HB hHeld ⊢
                 refine pA_ 0 71 (ml_ 19 1) rfl rfl HT_.out ?_
                 refine pA_ 1 72 (ml_ 19 3) rfl rfl HT_.out ?_
                 refine pA_ 2 73 (ml_ 19 7) rfl rfl HT_.out ?_
                 refine pA_ 3 74 (ml_ 19 15) rfl rfl HT_.out ?_
                 refine pU_ 4 75 (ml_ 19 31) rfl rfl HT_.out ?_
                 refine pU_ 5 76 (ml_ 19 63) rfl rfl HT_.out ?_
                 refine pU_ 6 77 (ml_ 19 127) rfl rfl HT_.out ?_
                 refine pU_ 7 78 (ml_ 19 255) rfl rfl HT_.out ?_
                 refine pU_ 8 79 (ml_ 19 511) rfl rfl HT_.out ?_
                 refine pU_ 9 80 (ml_ 19 1023) rfl rfl HT_.out ?_
                 refine pU_ 10 81 (ml_ 19 2047) rfl rfl HT_.out ?_
                 refine pU_ 11 82 (ml_ 19 4095) rfl rfl HT_.out ?_
                 refine pU_ 12 83 (ml_ 19 8191) rfl rfl HT_.out ?_
                 refine pU_ 13 84 (ml_ 19 16383) rfl rfl HT_.out ?_
                 refine pU_ 14 85 (ml_ 19 32767) rfl rfl HT_.out ?_
                 refine pU_ 15 86 (ml_ 19 65535) rfl rfl HT_.out ?_
                 refine pU_ 16 87 (ml_ 19 131071) rfl rfl HT_.out ?_
                 refine pA_ 17 88 (ml_ 19 262143) rfl rfl HT_.out ?_
                 refine pA_ 18 70 (ml_ 19 524287) rfl rfl HT_.out ?_
                 refine done_ (done_of HT_.out (by kernel_rfl)) ?_
                 try go_wp2
                 have n0_ := Aside0.mk (Kd.R_drew HO_7.out)
                 have n1_ := Aside0.mk (Kd.R_drew HO_8.out)
                 have n2_ := Aside0.mk (below_drew1 HB.out)
                 clear HO_7
                 clear HO_8
                 clear HB
                 have HO_7 := n0_
                 have HO_8 := n1_
                 have HB := n2_
                 clear n0_ n1_ n2_
                 have p240 : 0 ≤ (x9_1 : Int) := of_decide_eq_true (by first | (with_reducible assumption) | assumption)
                 have q240 : x9_1 < (t224.length : Int) := of_decide_eq_true (by first | (with_reducible assumption) | assumption)
                 obtain ⟨ad240, e240, hx240_0⟩ := Kd.at_int (Kd.R_reads' HO_7.out).2.2 x9_1 p240 q240
                 obtain rfl : ad227 = ad240 := (by injection e240)
                 replace p240 := eq_true p240
                 replace q240 := eq_true q240
                 have p241 : 0 ≤ ((ji46) : Int) := of_decide_eq_true (by first | (with_reducible assumption) | assumption)
                 have q241 : (ji46) < (t224.length : Int) := of_decide_eq_true (by first | (with_reducible assumption) | assumption)
                 obtain ⟨ad241, e241, hx241_0⟩ := Kd.at_int (Kd.R_reads' HO_7.out).2.2 (ji46) p241 q241
                 obtain rfl : ad227 = ad241 := (by injection e241)
                 replace p241 := eq_true p241
                 replace q241 := eq_true q241
                 refine start_ (n := 15) (S := fun w' => w'.cell? (ad227.add (x9_1).toNat) = some (.int .i64 (rd t224 x9_1)) ∧ w'.cell? (ad227.add ((ji46)).toNat) = some (.int .i64 (rd t224 (ji46)))) (ds := [12, 13]) (ml_ 15 0) (by kernel_rfl) rfl rfl ⟨hx240_0, hx241_0⟩ (fun hHeld => ?_); refine with_tabW caravanref1_Mix.tab13 caravanref1_Mix.bits13 (fun HT_ HW_ => ?_)
                 generalize w50.drew = w52 at HO_7 HO_8 HB hx240_0 hx241_0 hHeld ⊢
                 refine pA_ 0 53 (ml_ 15 1) rfl rfl HT_.out ?_
                 refine pA_ 1 54 (ml_ 15 3) rfl rfl HT_.out ?_
                 refine pA_ 2 55 (ml_ 15 7) rfl rfl HT_.out ?_
                 refine pA_ 3 56 (ml_ 15 15) rfl rfl HT_.out ?_
                 refine pA_ 5 58 (ml_ 15 47) rfl rfl HT_.out ?_
                 refine pA_ 6 59 (ml_ 15 111) rfl rfl HT_.out ?_
                 refine pA_ 7 60 (ml_ 15 239) rfl rfl HT_.out ?_
                 refine pA_ 8 61 (ml_ 15 495) rfl rfl HT_.out ?_
                 refine t2_ 4 57 (ml_ 15 511) rfl rfl HT_.out HW_.out hHeld ?_
                 refine t2_ 9 62 (ml_ 15 1023) rfl rfl HT_.out HW_.out hHeld ?_
                 refine pA_ 10 63 (ml_ 15 2047) rfl rfl HT_.out ?_
                 refine pA_ 11 64 (ml_ 15 4095) rfl rfl HT_.out ?_
                 refine last_ (i := 12) (N := some 65) (ml_ 15 8191) rfl rfl (one_of HT_.out (by kernel_rfl)) (by decide) (fun K hK => ?_)
                 refine value_ (w1 := ?_) (v := ?_) (by rfl) rfl ?_ ?_
                 rotate_left 2
                 ·go_simp
                  constructor
                  ·rfl
                  ·rfl
                 refine hK.out _ _ ?_
                 clear hK K
                 refine nA_ 65 ?_
                 refine last_ (i := 13) (N := some 66) (ml_ 15 16383) rfl rfl (one_of HT_.out (by kernel_rfl)) (by decide) (fun K hK => ?_)
                 refine Kd.R_append_step k31 (w0 := w) w.heap.size (by rfl) (.tmp 53) (.tmp 65) 23 31 (.agg #[(.int .i64 0), (.int .i64 0)]) 16 rfl Tryd.underlying23 info31 rfl (by decide) (by omega) (.slice Ao51 x8_1.length co51) x8_1 (⟨rd t224 x9_1, wrap64 ((rd t224 (ji46)) - 1)⟩ : S31) [.int .i64 (rd t224 x9_1), .int .i64 (wrap64 ((rd t224 (ji46)) - 1))] (fun _ => True) (fun _ => False) rfl rfl ?aP (fun _ hk => hk.elim) ?aF ?aO ?aB ?aS ?aL ?_
                 (case aP => exact k31_mkM _ _ _ (⟨rd t224 x9_1, wrap64 ((rd t224 (ji46)) - 1)⟩ : S31))
                 (case aB => exact (qdb35_ HB.out))
                 (case aF => exact (fun _ _ => trivial))
                 (case aO => exact (q8524_ HO_8.out))
                 (case aS => exact (below_size (qdb35_ HB.out)))
                 (case aL => have := LMc49.out; omega)
                 intro v243 w53 ho hb hg hat
                 rw [← Ny242.out] at ho
                 have n0_ := Aside0.mk (Kd.R_over' (q8524_ HO_7.out) (Kd.R_typed (q8524_ HO_8.out)) (by decide) hg)
                 have n1_ := Aside0.mk (hb)
                 have n2_ := Aside0.mk (ho)
                 clear HO_7
                 clear HB
                 clear HO_8
                 have HO_7 := n0_
                 have HB := n1_
                 have HO244 := n2_
                 clear n0_ n1_ n2_
                 clear ho hb hg hat
                 refine hK.out _ _ ?_
                 clear hK K
                 refine nA_ 66 ?_
                 refine pA_ 14 8 (ml_ 15 32767) rfl rfl HT_.out ?_
                 refine done_ (done_of HT_.out (by kernel_rfl)) ?_
                 try go_wp2
                 go_roundg kj14
                 case measure => have := HK1.out; have := HJ10.out; have := HJ14.out; omega
                 case rel => exact ⟨(y242), (ji46), (by first | rfl | (simp; done) | (simp only [← hji46] <;> (first | rfl | simp)) | (simp [*]; done)), H', ⟨by have := HK1.out; have := HJ10.out; have := HJ14.out; omega⟩, ⟨by (with_reducible repeat (first | apply Kd.R_alloc | apply Kd.R_drewN | apply Kd.R_drew)); exact HO_7.out⟩, ⟨by (with_reducible repeat (first | apply Kd.R_alloc | apply Kd.R_drewN | apply Kd.R_drew)); exact HO244.out⟩, ⟨(qdb35_ HB.out)⟩⟩
                ·rw [if_neg c49] at H
                 exact absurd H (by simp)
               ·rw [if_neg c48] at H
                exact absurd H (by simp)
              ·rw [if_neg c47] at H
               exact absurd H (by simp)
             ·rw [if_neg c45] at H
              exact absurd H (by simp)
            ·rw [if_neg c44] at H
             exact absurd H (by simp)
          ·replace c20 := Bool.eq_false_iff.mpr c20
           subst c20
           have H1 : (caravanref1_Mix.l0 kj14 a0 l1 l2 t224 x8_1 (wrap64 (x9_1 + 1))) = some r := by rw [if_neg (show ¬ (false = true) by decide)] at H; exact H
           clear H
           have H := H1
           clear H1
           have H' := Aside0.mk H
           clear H
           go_wp2
           go_roundg kj14
           case measure => have := HK1.out; have := HJ10.out; have := HJ14.out; omega
           case rel => exact ⟨(x8_1), (wrap64 (x9_1 + 1)), (by first | rfl | (simp; done) | (simp [*]; done)), H', ⟨by have := HK1.out; have := HJ10.out; have := HJ14.out; omega⟩, ⟨by (with_reducible repeat (first | apply Kd.R_alloc | apply Kd.R_drewN | apply Kd.R_drew)); exact HO_7.out⟩, ⟨by (with_reducible repeat (first | apply Kd.R_alloc | apply Kd.R_drewN | apply Kd.R_drew)); exact HO_8.out⟩, ⟨(qdb35_ HB.out)⟩⟩
     ·rw [if_neg c8] at H
      exact absurd H (by simp)
    ·rw [if_neg c7] at H
     exact absurd H (by simp)
   ·rw [if_neg c6] at H
    have c6b0 : decide ((wrap64 (x9_1 + 1)) < (t224.length : Int)) = false := decide_eq_false c6
    clear c6
    obtain rfl := Option.some.inj H
    obtain ⟨Ao54, co54, eo54⟩ := Kd.R_slice HO_7.out
    subst eo54
    go_wp2
    go_ret
    exact ⟨_, by first | rfl | (simp [errW_none, errW_some] <;> rfl) | (simp [*, errW_none, errW_some] <;> rfl), by (with_reducible repeat (first | apply Kd.R_alloc | apply Kd.R_drewN | apply Kd.R_drew)); exact HO_8.out, (qdb35_ HB.out)⟩

end Go.Proofs.YtnlakdpfkgjdaaaDoor.G

/- What functions of the translation come to, and their calls' proofs; by a program of mine over the kit's print, with contracts given by hand beside. Conditions: where a plain function tells none, nothing is said. -/
namespace Go.Proofs.YtnlakdpfkgjdaaaDoor.G
open Go.RowKit Go.Proofs.YtnlakdpfkgjdaaaDoorW.PrintWords Go.Proofs.YtnlakdpfkgjdaaaDoorW.PrintLast Go.Proofs.YtnlakdpfkgjdaaaDoorW.PrintMore
attribute [local go_sem] max2_int min2_int max_two min_two max_three min_three max_four min_four   -- for this text's walks alone
set_option linter.unusedVariables false
set_option linter.unusedSimpArgs false

/-! ### caravanref1_Norm: function 17 -/
def caravanref1_Norm.f (k : Nat) (l0 : List (S31)) : Option ((List (S31))) := (caravanref1_Mix.f k 0 l0 ([] : List (S31))).bind fun t245 => (some t245)
theorem caravanref1_Norm.mono : ∀ a0 k, LeO (caravanref1_Norm.f k a0) (caravanref1_Norm.f (k + 1) a0) := by
 intro a0 k
 unfold caravanref1_Norm.f
 repeat' first
  | (with_reducible exact caravanref1_Mix.mono _ _ _ _)
  | (with_reducible exact LeO.refl _)
  | (with_reducible exact LeO.none _)
  | (with_reducible refine LeO.ite ?_ ?_)
  | (with_reducible refine LeO.bind ?_ (fun _ => ?_))
  | exact caravanref1_Mix.mono _ _ _ _
  | exact LeO.none _
  | refine LeO.ite ?_ ?_
  | refine LeO.bind ?_ (fun _ => ?_)
set_option maxHeartbeats 8000000 in
set_option maxRecDepth 100000 in
theorem caravanref1_Norm.calls (k : Nat) (A0 : Option Addr) (c0 : Nat) (l0 : List (S31)) (r : List (S31)) (w : World) (hr0 : Kd.C k31 w A0 l0.length l0) (hc0 : l0.length ≤ c0) (h : caravanref1_Norm.f k l0 = some r) :
 Calls Tryd.prog 17 #[.slice A0 l0.length c0] w fun e w' => ∃ v0_ : Value, e = .returned (v0_) ∧ Kd.R k31 31 w' w.heap.size (fun _ => True) v0_ r ∧ Below w.heap.size w w' := by
 have HR0 := Aside0.mk hr0
 have HC0 := Aside0.mk hc0
 clear hr0 hc0
 have HB := Aside0.mk (Below.refl w.heap.size w)
 have H : ((caravanref1_Mix.f k 0 l0 ([] : List (S31))).bind fun t245 => (some t245)) = some r := h
 clear h
 replace H := Option.bind_eq_some_iff.mp H
 obtain ⟨t245, A20, H⟩ := H
 replace H : (some t245) = some r := H
 have A2 := Aside0.mk A20
 clear A20
 obtain rfl := Option.some.inj H
 go_enter Tryd.func17, Tryd.ntmps17
 go_wp2_with (first | ((with_reducible refine gate_callee (f := 25) rfl ?_); refine goesL_ (some 4) rfl rfl Tryd.func25 (by kernel_rfl) rfl #[.int .i64 0, .slice A0 l0.length c0, .slice none 0 0] rfl qM_ ?_; (refine (caravanref1_Mix.calls k 0 _ _ l0 _ _ ([] : List (S31)) t245 _ ?side1 ?side2 ?side3 ?side4 A2.out).mono ?_); (case side1 => exact qC_ (HR0.out)); (case side2 => exact HC0.out); (case side3 => exact Kd.C_nil _ _); (case side4 => exact Nat.le_refl _); rintro e w3 ⟨v246, rfl, ho0, hb⟩; refine ⟨_, rfl, ?_⟩; have n0_ := Aside0.mk (Kd.R_lower ho0 (below_size (qdb35_ HB.out))); have n1_ := Aside0.mk (below_step (qdb35_ HB.out) hb); clear HB; have HO247 := n0_; have HB := n1_; clear n0_ n1_; (try clear hb); (try clear hb2); (try clear hk); (try clear hi); (try clear ho0)))
 go_ret
 exact ⟨_, by first | rfl | (simp [errW_none, errW_some] <;> rfl) | (simp [*, errW_none, errW_some] <;> rfl), by (with_reducible repeat (first | apply Kd.R_alloc | apply Kd.R_drewN | apply Kd.R_drew)); exact HO247.out, (qdb35_ HB.out)⟩

end Go.Proofs.YtnlakdpfkgjdaaaDoor.G

/- What functions of the translation come to, and their calls' proofs; by a program of mine over the kit's print, with contracts given by hand beside. Conditions: where a plain function tells none, nothing is said. -/
namespace Go.Proofs.YtnlakdpfkgjdaaaDoor.G
open Go.RowKit Go.Proofs.YtnlakdpfkgjdaaaDoorW.PrintWords Go.Proofs.YtnlakdpfkgjdaaaDoorW.PrintLast Go.Proofs.YtnlakdpfkgjdaaaDoorW.PrintMore
attribute [local go_sem] max2_int min2_int max_two min_two max_three min_three max_four min_four   -- for this text's walks alone
set_option linter.unusedVariables false
set_option linter.unusedSimpArgs false

end Go.Proofs.YtnlakdpfkgjdaaaDoor.G

/- What functions of the translation come to, and their calls' proofs; by a program of mine over the kit's print, with contracts given by hand beside. Conditions: where a plain function tells none, nothing is said. -/
namespace Go.Proofs.YtnlakdpfkgjdaaaDoor.G
open Go.RowKit Go.Proofs.YtnlakdpfkgjdaaaDoorW.PrintWords Go.Proofs.YtnlakdpfkgjdaaaDoorW.PrintLast Go.Proofs.YtnlakdpfkgjdaaaDoorW.PrintMore
attribute [local go_sem] max2_int min2_int max_two min_two max_three min_three max_four min_four   -- for this text's walks alone
set_option linter.unusedVariables false
set_option linter.unusedSimpArgs false

attribute [local go_sem high] eqA31
/-! ### caravanref1_SameSpans: function 12 -/
def caravanref1_SameSpans.l0 : Nat → List (S31) → List (S31) → Int → Option (Bool)
 | 0, _, _, _ => none
 | k + 1, x0, x1, x5 => if x5 < (x0.length : Int) then (if 0 ≤ x5 then (if x5 < (x1.length : Int) then (if (!(((rd_T31 x0 x5).f0) == ((rd_T31 x1 x5).f0)) || (!(((rd_T31 x0 x5).f1) == ((rd_T31 x1 x5).f1)))) = true then (some false) else (caravanref1_SameSpans.l0 k x0 x1 (wrap64 (x5 + 1)))) else (none)) else (none)) else (some true)
def caravanref1_SameSpans.f (k : Nat) (l0 : List (S31)) (l1 : List (S31)) : Option (Bool) := if (l0.length : Int) = (l1.length : Int) then (caravanref1_SameSpans.l0 k l0 l1 0) else (some false)
theorem caravanref1_SameSpans.mono_l : ∀ k, (∀ y0 y1 y2, LeO (caravanref1_SameSpans.l0 k y0 y1 y2) (caravanref1_SameSpans.l0 (k + 1) y0 y1 y2))
 | 0 => fun _ _ _ r h => by simp [caravanref1_SameSpans.l0] at h
 | k + 1 => by
  have ih0 := caravanref1_SameSpans.mono_l k
  ·intro y0 y1 y2
   unfold caravanref1_SameSpans.l0
   repeat' first
   | (with_reducible exact ih0 _ _ _)
   | (with_reducible exact LeO.refl _)
   | (with_reducible exact LeO.none _)
   | (with_reducible refine LeO.ite ?_ ?_)
   | (with_reducible refine LeO.bind ?_ (fun _ => ?_))
   | exact ih0 _ _ _
   | exact LeO.none _
   | refine LeO.ite ?_ ?_
   | refine LeO.bind ?_ (fun _ => ?_)
theorem caravanref1_SameSpans.mono : ∀ a0 a1 k, LeO (caravanref1_SameSpans.f k a0 a1) (caravanref1_SameSpans.f (k + 1) a0 a1) := by
 intro a0 a1 k
 have ih0 := caravanref1_SameSpans.mono_l k
 unfold caravanref1_SameSpans.f
 repeat' first
  | (with_reducible exact ih0 _ _ _)
  | (with_reducible exact LeO.refl _)
  | (with_reducible exact LeO.none _)
  | (with_reducible refine LeO.ite ?_ ?_)
  | (with_reducible refine LeO.bind ?_ (fun _ => ?_))
  | exact ih0 _ _ _
  | exact LeO.none _
  | refine LeO.ite ?_ ?_
  | refine LeO.bind ?_ (fun _ => ?_)
set_option maxHeartbeats 8000000 in
set_option maxRecDepth 100000 in
theorem caravanref1_SameSpans.calls (k : Nat) (A0 : Option Addr) (c0 : Nat) (l0 : List (S31)) (A1 : Option Addr) (c1 : Nat) (l1 : List (S31)) (r : Bool) (w : World) (hr0 : Kd.C k31 w A0 l0.length l0) (hc0 : l0.length ≤ c0) (hr1 : Kd.C k31 w A1 l1.length l1) (hc1 : l1.length ≤ c1) (h : caravanref1_SameSpans.f k l0 l1 = some r) :
 Calls Tryd.prog 12 #[.slice A0 l0.length c0, .slice A1 l1.length c1] w fun e w' => e = .returned (.bool r) ∧ Drawn0 w w' := by
 have hu31 := Tryd.underlying31
 have HR0 := Aside0.mk hr0
 have HC0 := Aside0.mk hc0
 clear hr0 hc0
 have HR1 := Aside0.mk hr1
 have HC1 := Aside0.mk hc1
 clear hr1 hc1
 have H : (if (l0.length : Int) = (l1.length : Int) then (caravanref1_SameSpans.l0 k l0 l1 0) else (some false)) = some r := h
 clear h
 by_cases c3 : (l0.length : Int) = (l1.length : Int)
 ·rw [if_pos c3] at H
  have c3b0 : ((l0.length : Int) == (l1.length : Int)) = true := beq_iff_eq.mpr c3
  have c3b1 : ((l0.length : Int) != (l1.length : Int)) = false := bne_eq_false_iff_eq.mpr c3
  have c3b2 : (l0.length == l1.length) = true := by first | simpa using c3 | (simp at c3 ⊢; omega)
  clear c3
  have H' := Aside0.mk H
  clear H
  go_enter Tryd.func12, Tryd.ntmps12
  go_wp2
  repeat (go_quiet (fail); try go_wp2)
  go_loopg [5] k (fun kq v5 w' => ∃ (x5_1 : Int), v5 = .int .i64 x5_1 ∧ Aside0 (caravanref1_SameSpans.l0 kq l0 l1 x5_1 = some r) ∧ Aside0 (kq ≤ k) ∧ Drawn0 w w')
  case atStart => exact ⟨(0), (by first | rfl | (simp; done) | (simp [*]; done)), H', ⟨Nat.le_refl _⟩, (by repeat (first | exact Drawn0.refl _ | apply Drawn0.step))⟩
  case round =>
   clear H'
   try clear c1
   try clear p2
   try clear c3
   try clear c3b0
   try clear c3b1
   try clear c3b2
   obtain ⟨x5_1, rfl, HA, HK1, ⟨m1, rfl⟩⟩ := hrel
   cases gk with
   | zero => exact absurd HA.out (by simp [caravanref1_SameSpans.l0])
   | succ k1 =>
    have H := HA.out
    clear HA
    simp only [caravanref1_SameSpans.l0] at H
    by_cases c4 : x5_1 < (l0.length : Int)
    ·rw [if_pos c4] at H
     have c4b0 : decide (x5_1 < (l0.length : Int)) = true := decide_eq_true c4
     clear c4
     by_cases c5 : 0 ≤ x5_1
     ·rw [if_pos c5] at H
      have c5b0 : decide (0 ≤ x5_1) = true := decide_eq_true c5
      clear c5
      by_cases c6 : x5_1 < (l1.length : Int)
      ·rw [if_pos c6] at H
       have c6b0 : decide (x5_1 < (l1.length : Int)) = true := decide_eq_true c6
       clear c6
       by_cases c7 : (!(((rd_T31 l0 x5_1).f0) == ((rd_T31 l1 x5_1).f0)) || (!(((rd_T31 l0 x5_1).f1) == ((rd_T31 l1 x5_1).f1)))) = true
       ·rw [if_pos c7] at H
        have c7b0 : (!(((rd_T31 l0 x5_1).f0) == ((rd_T31 l1 x5_1).f0)) || (!(((rd_T31 l0 x5_1).f1) == ((rd_T31 l1 x5_1).f1)))) = true := c7
        clear c7
        obtain rfl := Option.some.inj H
        have p265 : 0 ≤ (x5_1 : Int) := of_decide_eq_true (by first | (with_reducible assumption) | assumption)
        have q265 : x5_1 < (l0.length : Int) := of_decide_eq_true (by first | (with_reducible assumption) | assumption)
        obtain ⟨ad265, e265, hx265_0, hx265_1⟩ := at_T31 HR0.out x5_1 p265 q265
        cases e265
        replace p265 := eq_true p265
        replace q265 := eq_true q265
        have p266 : 0 ≤ (x5_1 : Int) := of_decide_eq_true (by first | (with_reducible assumption) | assumption)
        have q266 : x5_1 < (l1.length : Int) := of_decide_eq_true (by first | (with_reducible assumption) | assumption)
        obtain ⟨ad266, e266, hx266_0, hx266_1⟩ := at_T31 HR1.out x5_1 p266 q266
        cases e266
        replace p266 := eq_true p266
        replace q266 := eq_true q266
        go_wp2
        repeat (go_quiet (fail); try go_wp2)
        go_ret
        exact ⟨by first | rfl | (simp; done) | (simp [*]; done), (by repeat (first | exact Drawn0.refl _ | apply Drawn0.step))⟩
       ·rw [if_neg c7] at H
        have c7b0 : (!(((rd_T31 l0 x5_1).f0) == ((rd_T31 l1 x5_1).f0)) || (!(((rd_T31 l0 x5_1).f1) == ((rd_T31 l1 x5_1).f1)))) = false := by simpa using c7
        clear c7
        have H' := Aside0.mk H
        clear H
        have p265 : 0 ≤ (x5_1 : Int) := of_decide_eq_true (by first | (with_reducible assumption) | assumption)
        have q265 : x5_1 < (l0.length : Int) := of_decide_eq_true (by first | (with_reducible assumption) | assumption)
        obtain ⟨ad265, e265, hx265_0, hx265_1⟩ := at_T31 HR0.out x5_1 p265 q265
        cases e265
        replace p265 := eq_true p265
        replace q265 := eq_true q265
        have p266 : 0 ≤ (x5_1 : Int) := of_decide_eq_true (by first | (with_reducible assumption) | assumption)
        have q266 : x5_1 < (l1.length : Int) := of_decide_eq_true (by first | (with_reducible assumption) | assumption)
        obtain ⟨ad266, e266, hx266_0, hx266_1⟩ := at_T31 HR1.out x5_1 p266 q266
        cases e266
        replace p266 := eq_true p266
        replace q266 := eq_true q266
        go_wp2
        repeat (go_quiet (fail); try go_wp2)
        go_roundg k1
        case measure => have := HK1.out; omega
        case rel => exact ⟨(wrap64 (x5_1 + 1)), (by first | rfl | (simp; done) | (simp [*]; done)), H', ⟨by have := HK1.out; omega⟩, (by repeat (first | exact Drawn0.refl _ | apply Drawn0.step))⟩
      ·rw [if_neg c6] at H
       exact absurd H (by simp)
     ·rw [if_neg c5] at H
      exact absurd H (by simp)
    ·rw [if_neg c4] at H
     have c4b0 : decide (x5_1 < (l0.length : Int)) = false := decide_eq_false c4
     clear c4
     obtain rfl := Option.some.inj H
     go_wp2
     repeat (go_quiet (fail); try go_wp2)
     go_ret
     exact ⟨by first | rfl | (simp; done) | (simp [*]; done), (by repeat (first | exact Drawn0.refl _ | apply Drawn0.step))⟩
 ·rw [if_neg c3] at H
  have c3b0 : ((l0.length : Int) == (l1.length : Int)) = false := beq_eq_false_iff_ne.mpr c3
  have c3b1 : ((l0.length : Int) != (l1.length : Int)) = true := bne_iff_ne.mpr c3
  have c3b2 : (l0.length == l1.length) = false := by first | simpa using c3 | (simp at c3 ⊢; omega)
  obtain rfl := Option.some.inj H
  go_enter Tryd.func12, Tryd.ntmps12
  go_wp2
  repeat (go_quiet (fail); try go_wp2)
  go_ret
  exact ⟨by first | rfl | (simp; done) | (simp [*]; done), (by repeat (first | exact Drawn0.refl _ | apply Drawn0.step))⟩

end Go.Proofs.YtnlakdpfkgjdaaaDoor.G

/- Words and laws of no program, for a range over a function whose iterator keeps rows of its own in new memory: what a body leaves alone that grows ONE row behind a box. No conditions. -/
namespace Go.Cav
open Go Go.RowKit

/-- the block of the slice that a box holds -/
def ownAt (B : Nat) (W : World) : Option Nat := ((W.cell? ⟨B, 0, none⟩).bind Value.ownBlock)
/-- All blocks of cells stay, but the box B and the row of the slice that it holds; the slice that it holds behind lies in that row, or in a new one. -/
structure KpB (B : Nat) (W W' : World) : Prop where
  size : W.heap.size ≤ W'.heap.size
  block : ∀ i o, W.heap[i]? = some o → o.isCells = true → i ≠ B → some i ≠ ownAt B W → W'.heap[i]? = some o
  fresh : ∀ k, ownAt B W' = some k → ownAt B W = some k ∨ (W.heap.size ≤ k ∧ k < W'.heap.size)
theorem KpB.refl (B : Nat) (W : World) : KpB B W W := ⟨Nat.le_refl _, fun _ _ h _ _ _ => h, fun _ h => .inl h⟩
theorem KpB.trans {B : Nat} {X Y Z : World} (h : KpB B X Y) (k : KpB B Y Z) : KpB B X Z := by
  refine ⟨Nat.le_trans h.size k.size, fun i o hi hc hb ho => ?_, fun q hq => ?_⟩
  · refine k.block i o (h.block i o hi hc hb ho) hc hb fun e => ?_
    rcases h.fresh i e.symm with e' | e'
    · exact ho e'.symm
    · have := lt_of_heap hi; omega
  · rcases k.fresh q hq with e | e
    · rcases h.fresh q e with e' | e'
      · exact .inl e'
      · exact .inr ⟨e'.1, Nat.lt_of_lt_of_le e'.2 k.size⟩
    · exact .inr ⟨Nat.le_trans h.size e.1, e.2⟩
theorem cell_putObj {W : World} {l B : Nat} (h : l ≠ B) (o' : Obj) : (W.putObj l o').cell? ⟨B, 0, none⟩ = W.cell? ⟨B, 0, none⟩ :=
  World.cell?_of_block (World.putObj_heap_other (fun e => h e.symm))
theorem kpB_b {B N : Nat} (hB : B < N) (W : World) (l : Nat) (o o' : Obj) (hl : N ≤ l) (ho : W.heap[l]? = some o) (hc : o.isCells = false) (_ : o.isWalk = false) : KpB B W (W.putObj l o') := by
  have hc' : ownAt B (W.putObj l o') = ownAt B W := by unfold ownAt; rw [cell_putObj (by omega)]
  refine ⟨(grownBy_putObj' W l o').size, fun i q hi hq _ _ => ?_, fun k hk => .inl (by rw [← hc']; exact hk)⟩
  have : i ≠ l := by rintro rfl; rw [ho] at hi; cases hi; rw [hc] at hq; cases hq
  exact (World.putObj_heap_other this).trans hi
/-- a block of cells that is neither the box nor its row stays -/
theorem KpB.cell {B : Nat} {W W' : World} (h : KpB B W W') {p : Addr} {v : Value} (hc : W.cell? p = some v) (hb : p.block ≠ B) (ho : some p.block ≠ ownAt B W) : W'.cell? p = some v := by
  have hh : ∃ o, W.heap[p.block]? = some o ∧ o.isCells = true := by
    unfold World.cell? at hc
    split at hc
    · rename_i he; exact ⟨_, he, rfl⟩
    · cases hc
  obtain ⟨o, hi, hoc⟩ := hh
  exact (World.cell?_of_block ((h.block _ o hi hoc hb ho).trans hi.symm)).trans hc
/-- .. where B's slice lies in none of the blocks from N to M, what lies there stays, and B's slice lies in none of them behind -/
theorem KpB.cell_between {B N M : Nat} {W W' : World} (h : KpB B W W') {p : Addr} {v : Value} (hc : W.cell? p = some v) (hb : p.block ≠ B) (hN : N ≤ p.block) (hM : p.block < M) (ho : ∀ k, ownAt B W = some k → k < W.heap.size ∧ ¬ (N ≤ k ∧ k < M)) : W'.cell? p = some v :=
  h.cell hc hb fun e => (ho _ e.symm).2 ⟨hN, hM⟩
theorem KpB.none_between {B N M : Nat} {W W' : World} (h : KpB B W W') (hM : M ≤ W.heap.size) (ho : ∀ k, ownAt B W = some k → k < W.heap.size ∧ ¬ (N ≤ k ∧ k < M)) : ∀ k, ownAt B W' = some k → k < W'.heap.size ∧ ¬ (N ≤ k ∧ k < M) := by
  intro k hk
  rcases h.fresh k hk with e | e
  · exact ⟨Nat.lt_of_lt_of_le (ho k e).1 h.size, (ho k e).2⟩
  · exact ⟨e.2, fun ⟨_, h2⟩ => by omega⟩
/-- a step that leaves all old alone -/
theorem ownAt_below {B : Nat} {W W' : World} (h : Below W.heap.size W W') (hB : B < W.heap.size) : ownAt B W' = ownAt B W := by
  unfold ownAt; rw [World.cell?_of_block (h.block B hB)]
theorem kpB_below {B : Nat} {W W' : World} (h : Below W.heap.size W W') (hB : B < W.heap.size) : KpB B W W' :=
  ⟨h.size, fun i _ hi _ _ _ => (h.block i (lt_of_heap hi)).trans hi, fun k hk => .inl (by rw [← ownAt_below h hB]; exact hk)⟩
theorem below_plain : Plain (fun A B : World => Below A.heap.size A B) := fun _ _ _ _ h hi _ _ => (h.block _ (lt_of_heap hi)).trans hi

variable {P : Program}
/-- append onto a row of one's own, inside a fence: where the new row lies -/
theorem wpListIn_append_at {F : Fence} {n : Nat} (w : World) {ops : Array Oper} {rest : List Oper} {o : Oper} {a : Act} {Q : Exit → Act → World → Prop}
    (hg : o.guard = none) (s x : Operand) (t : TypeId) (hop : o.op = Op.call { callee := Callee.builtin Builtin.append, args := #[s, x], argTypes := #[t, t] })
    (base : Nat) (e : TypeId) (i : TypeInfo) (z : Value) (size bytes : Nat) (h1 : P.underlying t = some (.slice e)) (h2 : P.info? e = some i) (h3 : i.zero = some z) (h4 : i.size = size) (h5 : i.bytes = bytes) (h6 : z.cells.size = size) (h7 : 0 < size)
    (v : Value) (k : Nat) (xs : List Value) (hs : a.eval s = v) (hown : w.ownsRow base e size v k xs) (ad : Addr) (m c : Nat) (news : List Value) (hx : a.eval x = .slice (some ad) m c) (hn : news.length = m * size)
    (hc : ∀ j u, news[j]? = some u → w.cell? (ad.add j) = some u) (h1c : ∀ u ∈ news, u.oneCell' = true) (b1 : k + m ≤ maxLen) (b2 : (k + m) * bytes ≤ 140737488355328) (b3 : base ≤ w.heap.size)
    (hK : ∀ v' w', w'.ownsRow base e size v' (k + m) (xs ++ news) → w.grownBy w' v.ownBlock → (v'.ownBlock = v.ownBlock ∨ v'.ownBlock = some w.heap.size) → wpListIn F n P ops Q rest (a.put o.dst v') w') :
    wpListIn F n P ops Q (o :: rest) a w := by
  refine wpListIn_plain hg fun K hK' => ?_
  obtain ⟨v', w', hrun, r1, r2, _, r4⟩ := run_append_own_at (P := P) w base t o.type e i z size bytes h1 h2 h3 h4 h5 h6 h7 v k xs hown ad m c news hn hc h1c b1 b2 b3
  unfold Oper.wpIn
  refine ⟨?_, ?_⟩
  · simp [Oper.about, hop, resolve, Target.leads, Sem.run_pure]
  · rw [Oper.semAt_plain F _ _ (by rw [hop]; intro c hc'; cases hc')]
    simp [execOp, hop, resolve, invoke, builtin, hs, hx, hrun, Result.andThen]
    exact hK' _ _ (hK v' w' r1 r2 r4)
/-- 'out = append(out, ..)', out a boxed variable: behind the store -/
theorem Boxed.kpB {W W0 w1 : World} {B t base : Nat} {e : TypeId} {size : Nat} {v v' : Value} {k m : Nat} {xs ys : List Value}
    (hv : Boxed W B t v) (hte : t ≠ e) (h0 : Below W.heap.size W W0) (hv0 : Boxed W0 B t v) (hrow0 : W0.ownsRow base e size v k xs)
    (hown' : w1.ownsRow base e size v' m ys) (hgrow : W0.grownBy w1 v.ownBlock) (hat : v'.ownBlock = v.ownBlock ∨ v'.ownBlock = some W0.heap.size) :
    KpB B W (w1.setCell ⟨B, 0, none⟩ v') := by
  have hv1 : Boxed w1 B t v := hv0.kept hgrow (hv0.not_row hte hrow0)
  have hset := hv1.set v'
  have e0 : ownAt B W = v.ownBlock := by unfold ownAt; rw [hv.cell]; rfl
  have e1 : ownAt B (w1.setCell ⟨B, 0, none⟩ v') = v'.ownBlock := by unfold ownAt; rw [hset.cell]; rfl
  refine ⟨Nat.le_trans h0.size (Nat.le_trans hgrow.size (grownBy_setCell' w1 B v').size), fun i o hi hc hb ho => ?_, fun q hq => ?_⟩
  · rw [e0] at ho
    have hil := lt_of_heap hi
    have a1 := (h0.block i hil).trans hi
    have a2 := (hgrow.block i (lt_of_heap a1) ho).trans a1
    exact ((grownBy_setCell' w1 B v').block i (lt_of_heap a2) (fun e => hb (Option.some.inj e))).trans a2
  · rw [e1] at hq
    rw [e0]
    rcases hat with h | h
    · exact .inl (by rw [← h]; exact hq)
    · have hl := (hown'.lt q hq).2
      rw [h] at hq
      cases hq
      exact .inr ⟨h0.size, Nat.lt_of_lt_of_le hl (grownBy_setCell' w1 B v').size⟩
end Go.Cav

/- Words for Minus and Both: a slice of spans that lies in one block, and that a range's body which grows another row leaves it alone. No conditions. -/
namespace Go.Proofs.YtnlakdpfkgjdaaaDoor.G
open Go.RowKit Go.Cav Go.Proofs.YtnlakdpfkgjdaaaDoorW.PrintWords Go.Proofs.YtnlakdpfkgjdaaaDoorW.PrintLast Go.Proofs.YtnlakdpfkgjdaaaDoorW.PrintMore
/-- a slice value that reads as spans; its cells lie in a block from N to M -/
def RowV (W : World) (N M : Nat) (v : Value) (xs : List S31) : Prop :=
  ∃ A c, v = .slice A xs.length c ∧ xs.length ≤ c ∧ (xs ≠ [] → ∃ g o, A = some ⟨g, o, none⟩ ∧ N ≤ g ∧ g < M ∧ ∀ j s, xs[j]? = some s → W.cell? ⟨g, o + j * 2, none⟩ = some (.int .i64 s.f0) ∧ W.cell? ⟨g, o + j * 2 + 1, none⟩ = some (.int .i64 s.f1))
/-- the slice in the box B lies in no block from N to M -/
def Free (B : Nat) (W : World) (N M : Nat) : Prop := ∀ k, ownAt B W = some k → k < W.heap.size ∧ ¬ (N ≤ k ∧ k < M)
theorem RowV.keep {B N M : Nat} {W W' : World} {v : Value} {xs : List S31} (h : RowV W N M v xs) (hk : KpB B W W') (hB : B < N) (hf : Free B W N M) : RowV W' N M v xs := by
  obtain ⟨A, c, rfl, h1, h2⟩ := h
  refine ⟨A, c, rfl, h1, fun hx => ?_⟩
  obtain ⟨g, o, rfl, h3, h4, h5⟩ := h2 hx
  exact ⟨g, o, rfl, h3, h4, fun j s hj => ⟨hk.cell_between (h5 j s hj).1 (by show g ≠ B; omega) h3 h4 hf, hk.cell_between (h5 j s hj).2 (by show g ≠ B; omega) h3 h4 hf⟩⟩
theorem RowV.below {N M : Nat} {W W' : World} {v : Value} {xs : List S31} (h : RowV W N M v xs) (hb : Below W.heap.size W W') : RowV W' N M v xs := by
  obtain ⟨A, c, rfl, h1, h2⟩ := h
  refine ⟨A, c, rfl, h1, fun hx => ?_⟩
  obtain ⟨g, o, rfl, h3, h4, h5⟩ := h2 hx
  have hs := Stir.of_below hb (fun _ => False)
  exact ⟨g, o, rfl, h3, h4, fun j s hj => ⟨hs.cell (h5 j s hj).1 (fun e => e), hs.cell (h5 j s hj).2 (fun e => e)⟩⟩
theorem Free.keep {B N M : Nat} {W W' : World} (h : Free B W N M) (hk : KpB B W W') (hM : M ≤ W.heap.size) : Free B W' N M := hk.none_between hM h
theorem Free.below {B N M : Nat} {W W' : World} (h : Free B W N M) (hb : Below W.heap.size W W') (hB : B < W.heap.size) : Free B W' N M := by
  unfold Free; rw [ownAt_below hb hB]; exact fun k hk => ⟨Nat.lt_of_lt_of_le (h k hk).1 hb.size, (h k hk).2⟩
/-- a block that was just made -/
theorem Free.new {B N M : Nat} {W W' : World} {o : Obj} (h : Free B W N M) (hB : B < W.heap.size) (hk : KpB B (W.alloc o) W') {i : Nat} {v : Value} (hc : (W.alloc o).cell? ⟨W.heap.size, i, none⟩ = some v) : W'.cell? ⟨W.heap.size, i, none⟩ = some v := by
  have e : ownAt B (W.alloc o) = ownAt B W := ownAt_below ((Below.refl _ W).alloc (Nat.le_refl _) o) hB
  refine hk.cell hc (by show W.heap.size ≠ B; omega) fun e' => ?_
  rw [e] at e'
  have := (h _ e'.symm).1
  exact Nat.lt_irrefl _ this
/-- what the library's calls tell of a row of their own -/
theorem rowV_of {w' : World} {base : Nat} {ok : Nat → Prop} {v : Value} {xs : List S31} (h : Kd.R k31 31 w' base ok v xs) : RowV w' base w'.heap.size v xs := by
  have hr : ∀ A c, v = .slice A xs.length c → Kd.C k31 w' A xs.length xs := fun A c e => by subst e; exact (Kd.R_reads' h).2.2
  obtain ⟨h0, inner, ho, _⟩ := h
  rcases ho.2 with ⟨rfl, e⟩ | ⟨g, cap, cur, rfl, hb, hg, hn, hm, hs, _⟩
  · obtain rfl : xs = [] := List.eq_nil_of_length_eq_zero e
    exact ⟨none, 0, rfl, Nat.le_refl _, fun h => absurd rfl h⟩
  · refine ⟨_, cap, rfl, hn, fun hx => ⟨g, 0, rfl, hb, lt_of_heap hg, fun j s hj => ?_⟩⟩
    obtain ⟨hjl, rfl⟩ := List.getElem?_eq_some_iff.1 hj
    obtain ⟨ad, e1, e2, e3⟩ := at_T31 (hr _ _ rfl) (j : Int) (by omega) (by omega)
    cases e1
    rw [rd_at xs j hjl] at e2 e3
    have ea : ((⟨g, 0, none⟩ : Addr).add ((j : Int).toNat * 2)) = ⟨g, 0 + j * 2, none⟩ := by
      rw [Int.toNat_natCast]
      unfold Addr.add
      split
      · rename_i h
        have : j = 0 := by omega
        subst this; rfl
      · simp
    rw [ea] at e2 e3
    exact ⟨e2, e3⟩
/-- the row behind its first element -/
theorem RowV.cons {W : World} {N M : Nat} {v : Value} {s : S31} {xs : List S31} (h : RowV W N M v (s :: xs)) :
    ∃ g o c, v = .slice (some ⟨g, o, none⟩) (xs.length + 1) c ∧ xs.length + 1 ≤ c ∧ N ≤ g ∧ g < M ∧ W.cell? ⟨g, o, none⟩ = some (.int .i64 s.f0) ∧ W.cell? ⟨g, o + 1, none⟩ = some (.int .i64 s.f1) ∧
      ∀ o' c', xs.length ≤ c' → (c ≠ 1 → o' = o + 2) → RowV W N M (.slice (some ⟨g, o', none⟩) xs.length c') xs := by
  obtain ⟨A, c, rfl, h1, h2⟩ := h
  obtain ⟨g, o, rfl, h3, h4, h5⟩ := h2 (by simp)
  refine ⟨g, o, c, rfl, h1, h3, h4, (h5 0 s rfl).1, (h5 0 s rfl).2, fun o' c' hc ho => ⟨_, c', rfl, hc, fun hx => ?_⟩⟩
  have hne : c ≠ 1 := fun e => hx (List.eq_nil_of_length_eq_zero (by simp at h1; omega))
  refine ⟨g, o', rfl, h3, h4, fun j s' hj => ?_⟩
  rw [ho hne]
  have := h5 (j + 1) s' (by simpa using hj)
  rw [show o + (j + 1) * 2 = o + 2 + j * 2 by omega] at this
  exact this
/-- .. at a place -/
theorem RowV.at {W : World} {N M : Nat} {v : Value} {xs : List S31} (h : RowV W N M v xs) {j : Nat} (hj : j < xs.length) :
    ∃ g o c, v = .slice (some ⟨g, o, none⟩) xs.length c ∧ N ≤ g ∧ g < M ∧ W.cell? ⟨g, o + j * 2, none⟩ = some (.int .i64 xs[j].f0) ∧ W.cell? ⟨g, o + j * 2 + 1, none⟩ = some (.int .i64 xs[j].f1) := by
  obtain ⟨A, c, rfl, h1, h2⟩ := h
  obtain ⟨g, o, rfl, h3, h4, h5⟩ := h2 (fun e => by rw [e] at hj; cases hj)
  exact ⟨g, o, c, rfl, h3, h4, h5 j _ (List.getElem?_eq_getElem hj)⟩
end Go.Proofs.YtnlakdpfkgjdaaaDoor.G

/- The library's Grow and Concat of two rows of spans. Condition: a bound on the lists' lengths. -/
namespace Go.Proofs.YtnlakdpfkgjdaaaDoor.G
open Go.RowKit Go.Cav Go.Proofs.YtnlakdpfkgjdaaaDoorW.PrintWords Go.Proofs.YtnlakdpfkgjdaaaDoorW.PrintLast Go.Proofs.YtnlakdpfkgjdaaaDoorW.PrintMore
attribute [local go_sem] Oper.semAt_some
theorem R_cut0 {α : Type} {d : Kd α} {e base n c : Nat} {ok : Nat → Prop} {w : World} {A : Option Addr} {xs : List α} (h : d.R e w base ok (.slice A n c) xs) : d.R e w base ok (.slice A 0 c) [] := by
  obtain ⟨h0, inner, ho, _⟩ := h
  refine ⟨fun k hk => h0 k (by cases A with | none => cases hk | some a => exact hk), [], ?_, Reps.none _ _⟩
  rcases ho.2 with ⟨e1, _⟩ | ⟨g, cap, cur, e1, hb, hg, hn, hm, hs, _⟩
  · cases e1
    exact ⟨by simp, .inl ⟨rfl, rfl⟩⟩
  · cases e1
    exact ⟨by simp, .inr ⟨g, c, cur, rfl, hb, hg, Nat.zero_le _, hm, hs, by simp⟩⟩
set_option maxRecDepth 100000 in
set_option maxHeartbeats 4000000 in
theorem grow_calls (n : Nat) (hn : n ≤ 2000000000) (w : World) : Calls Tryd.prog 54 #[.slice none 0 0, .int .i64 (n : Int)] w fun e w' => ∃ v, e = .returned v ∧ Kd.R k31 31 w' w.heap.size (fun _ => True) v [] ∧ Below w.heap.size w w' := by
  by_cases h : 0 < n
  · have h1 : (0 : Int) < (n : Int) := by omega
    have h2 : ¬ (n : Int) < 0 := by omega
    go_enter Tryd.func54, Tryd.ntmps54
    have hz0 : ((n : Int)).toNat = n := Int.toNat_natCast n
    have HZ := Lib.hid hz0
    clear hz0
    go_wp2_with (at_builtin; go_loud (refine Kd.R_append_zeros k31 (w0 := w) w.heap.size rfl (.tmp 20) (.tmp 21) 23 3 31 (.agg #[(.int .i64 0), (.int .i64 0)]) 16 rfl Tryd.underlying23 Tryd.underlying3 info31 rfl (by decide) (by omega) (.slice none 0 0) [] z31 (n : Int) (fun _ => True) rfl rfl (k31_mkM _ _ _ z31) (fun _ _ => trivial) (Kd.R_nil _ _ _ _ _) (by omega) (Below.refl _ _) (Nat.le_refl _) (by rw [HZ.out]; simp; omega) ?_))
    intro v1 w1 hR hB _ _
    obtain ⟨A1, c1, rfl⟩ := Kd.R_slice hR
    have HR := Lib.hid hR
    have HB := Lib.hid hB
    clear hR hB
    have HR0 := Lib.hid (R_cut0 HR.out)
    generalize (([] : List S31) ++ List.replicate (n : Int).toNat z31).length = m at HR ⊢
    go_wp2
    go_ret
    exact ⟨_, rfl, HR0.out, HB.out⟩
  · obtain rfl : n = 0 := by omega
    go_enter Tryd.func54, Tryd.ntmps54
    go_wp2
    go_ret
    exact ⟨_, rfl, Kd.R_nil _ _ _ _ _, Below.refl _ _⟩
set_option maxRecDepth 100000 in
set_option maxHeartbeats 4000000 in
theorem concat_calls (g : Nat) (A0 : Option Addr) (c0 : Nat) (x : List S31) (A1 : Option Addr) (c1 : Nat) (y : List S31) (w : World) (hc0 : w.cell? ⟨g, 0, none⟩ = some (.slice A0 x.length c0)) (hc1 : w.cell? ⟨g, 1, none⟩ = some (.slice A1 y.length c1))
    (hx : Kd.C k31 w A0 x.length x) (hy : Kd.C k31 w A1 y.length y) (h0 : x.length ≤ 1000000000) (h1 : y.length ≤ 1000000000) :
    Calls Tryd.prog 37 #[.slice (some ⟨g, 0, none⟩) 2 2] w fun e w' => ∃ v, e = .returned v ∧ Kd.R k31 31 w' w.heap.size (fun _ => True) v (x ++ y) ∧ Below w.heap.size w w' := by
  have hG := grow_calls (x.length + y.length) (by omega) w
  rw [show ((x.length + y.length : Nat) : Int) = (x.length : Int) + (y.length : Int) by simp] at hG
  have HX := Lib.hid hx
  have HY := Lib.hid hy
  have HC0 := Lib.hid hc0
  have HC1 := Lib.hid hc1
  clear hx hy hc0 hc1
  go_enter Tryd.func37, Tryd.ntmps37
  go_wp2
  go_loop [3, 11] (fun s i => (i = .int .i64 0 ∧ s = .int .i64 0) ∨ (i = .int .i64 1 ∧ s = .int .i64 (x.length : Int)) ∨ (i = .int .i64 2 ∧ s = .int .i64 ((x.length : Int) + (y.length : Int)))) (fun _ i => 2 - (intOf i).toNat)
  case atStart => exact .inl ⟨rfl, rfl⟩
  case round =>
    have hadd : (⟨g, 0, none⟩ : Addr).add 1 = ⟨g, 1, none⟩ := by simp [Addr.add]
    rcases hrel with ⟨rfl, rfl⟩ | ⟨rfl, rfl⟩ | ⟨rfl, rfl⟩
    · have cc := HC0.out
      go_wp2
      exact ⟨.inr (.inl ⟨rfl, rfl⟩), by decide⟩
    · have cc := HC1.out
      clear hadd
      go_wp2
      exact ⟨.inr (.inr ⟨rfl, rfl⟩), by decide⟩
    · go_wp2_with fail
      refine hG.mono ?_
      rintro e w1 ⟨v1, rfl, hR1, hB1⟩
      have HR1 := Lib.hid hR1
      have HB1 := Lib.hid hB1
      clear hG hR1 hB1 hadd
      go_wp2
      go_loopw [6, 27] (fun v i wr => Hid (Below w.heap.size w wr) ∧ ((i = .int .i64 0 ∧ Hid (Kd.R k31 31 wr w.heap.size (fun _ => True) v [])) ∨ (i = .int .i64 1 ∧ Hid (Kd.R k31 31 wr w.heap.size (fun _ => True) v x)) ∨ (i = .int .i64 2 ∧ Hid (Kd.R k31 31 wr w.heap.size (fun _ => True) v (x ++ y))))) (fun _ i _ => 2 - (intOf i).toNat)
      case atStart => exact ⟨HB1, .inl ⟨rfl, HR1⟩⟩
      case round =>
        obtain ⟨HB, ⟨rfl, HR⟩ | ⟨rfl, HR⟩ | ⟨rfl, HR⟩⟩ := hrel
        · have cc := (Stir.of_below HB.out (fun _ => False)).cell HC0.out (fun e => e)
          have hX := Lib.hid (Kd.C_below HX.out HB.out)
          go_wp2_with (at_builtin; go_loud (refine Kd.R_append_rows k31 (Rr := Kd.K k31 wr) (w0 := w) w.heap.size rfl _ _ 23 31 (.agg #[(.int .i64 0), (.int .i64 0)]) 16 rfl Tryd.underlying23 info31 rfl (by decide) (by decide) _ [] x A0 x.length c0 (fun _ => True) (fun _ => False) rfl rfl HR.out hX.out (fun p cs hp => ?aK) (fun _ e => e.elim) (fun _ _ => trivial) HB.out HB.out.size (by simp; omega) ?_; (case aK => obtain rfl := k31_open hp; exact k31_mkM _ _ _ p)))
          intro v2 w2 hR2 hB2 _ _
          have HR2 := Lib.hid hR2
          have HB2 := Lib.hid hB2
          clear hR2 hB2
          go_wp2
          exact ⟨⟨HB2, .inr (.inl ⟨rfl, HR2⟩)⟩, by decide⟩
        · have cc := (Stir.of_below HB.out (fun _ => False)).cell HC1.out (fun e => e)
          have hY := Lib.hid (Kd.C_below HY.out HB.out)
          go_wp2_with (at_builtin; go_loud (refine Kd.R_append_rows k31 (Rr := Kd.K k31 wr) (w0 := w) w.heap.size rfl _ _ 23 31 (.agg #[(.int .i64 0), (.int .i64 0)]) 16 rfl Tryd.underlying23 info31 rfl (by decide) (by decide) _ x y A1 y.length c1 (fun _ => True) (fun _ => False) rfl rfl HR.out hY.out (fun p cs hp => ?aK) (fun _ e => e.elim) (fun _ _ => trivial) HB.out HB.out.size (by omega) ?_; (case aK => obtain rfl := k31_open hp; exact k31_mkM _ _ _ p)))
          intro v2 w2 hR2 hB2 _ _
          have HR2 := Lib.hid hR2
          have HB2 := Lib.hid hB2
          clear hR2 hB2
          go_wp2
          exact ⟨⟨HB2, .inr (.inr ⟨rfl, HR2⟩)⟩, by decide⟩
        · go_wp2
          go_ret
          exact ⟨_, rfl, HR.out, HB.out⟩
end Go.Proofs.YtnlakdpfkgjdaaaDoor.G

/- What the iterator over a list's gaps hands on, at a body that grows one row behind a box. Conditions: a bound on the list's length. -/
namespace Go.Proofs.YtnlakdpfkgjdaaaDoor.G
open Go.RowKit Go.Shelf Go.Cav Go.Proofs.YtnlakdpfkgjdaaaDoorW.PrintWords Go.Proofs.YtnlakdpfkgjdaaaDoorW.PrintLast Go.Proofs.YtnlakdpfkgjdaaaDoorW.PrintMore
attribute [local go_sem] Oper.semAt_some
abbrev encS (s : S31) : Array Value := #[.agg #[.int .i64 s.f0, .int .i64 s.f1]]
/-- one yield -/
abbrev Yields {α : Type} (B n l : Nat) (enc : α → Array Value) (L : List α) (J Jx : List α → World → Prop) : Prop :=
  ∀ pre x W1, J pre W1 → pre.length < L.length → YieldAt Fence.wide (n - 1) Tryd.prog l (enc x) W1 fun e W' =>
    (e = .returned (.bool true) ∧ J (pre ++ [x]) W' ∧ KpB B W1 W') ∨ (e = .returned (.bool false) ∧ Jx (pre ++ [x]) W')
theorem gapsF_cons (a : Int) (s : S31) (r : List S31) : gapsF a (s :: r) = (if a < s.f0 then [⟨a, s.f0 - 1⟩] else []) ++ gapsF (s.f1 + 1) r := by
  rw [gapsF]; split <;> simp
set_option maxRecDepth 100000 in
set_option maxHeartbeats 4000000 in
theorem gaps_in (B Bl n : Nat) (hn : 1 ≤ n) (l : Nat) (A : Option Addr) (c : Nat) (xs : List S31) (hxs : xs.length ≤ 1000000000)
    (J Jx : List S31 → World → Prop) (W : World) (hJ : ∀ s X Y, J s X → Below X.heap.size X Y → J s Y)
    (hY : Yields B n l encS (gapsF 0 (normS xs)) J Jx)
    (hB : B < W.heap.size) (hfree : ownAt B W = none) (hbl : W.cell? ⟨Bl, 0, none⟩ = some (.slice A xs.length c)) (hC : Kd.C k31 W A xs.length xs) (hcl : xs.length ≤ c) (h0 : J [] W) :
    CallsIn Fence.wide n Tryd.prog 57 #[.func (.yield l) #[] #[], .pointer (some ⟨Bl, 0, none⟩)] W fun e W' => (∃ v, e = .returned v) ∧
      ((∃ ys, ys = gapsF 0 (normS xs) ∧ J ys W') ∨ (∃ pre, pre <+: gapsF 0 (normS xs) ∧ Jx pre W')) := by
  have hN := norm_any A c xs W hC hcl hxs
  have hln := normS_len xs
  have hmay := mayF_in (norm_spec xs).1 (Int.le_refl _)
  refine callsIn_of_wp Tryd.func57 rfl trivial ?_ rfl
  simp only [Tryd.ntmps57, List.size_toArray, List.length_cons, List.length_nil, Nat.reduceAdd, Nat.reduceSub, Array.replicate_succ, Array.replicate_zero, List.push_toArray, List.append_toArray, List.nil_append, List.cons_append]
  generalize normS xs = X at *
  gi_wp2_with fail
  refine ⟨trivial, (callsIn_wide.2 hN).mono ?_⟩
  rintro e w1 ⟨v1, rfl, hR, hb1⟩
  have hrow := rowV_of hR
  have hfr : Free B w1 W.heap.size w1.heap.size := fun k hk => by rw [ownAt_below hb1 hB, hfree] at hk; cases hk
  have hJ1 := hJ _ _ _ h0 hb1
  have hsz := hb1.size
  obtain ⟨A1, c1, rfl, hc1, hce⟩ := hrow
  have HROW : Hid (RowV w1 W.heap.size w1.heap.size (.slice A1 X.length c1) X) := Lib.hid ⟨A1, c1, rfl, hc1, hce⟩
  have HFR := Lib.hid hfr
  have HM := Lib.hid hmay
  clear hN hR hfr hmay hc1 hce h0 hC hbl
  gi_wp2
  gi_loopw [3, 9] (fun a i wr => ∃ k : Nat, ∃ a' : Int, ∃ pre, k ≤ X.length ∧ a = .int .i64 a' ∧ i = .int .i64 k ∧ 0 ≤ a' ∧ a' ≤ 16384 ∧ Hid (pre ++ gapsF a' (X.drop k) = gapsF 0 X) ∧ J pre wr ∧ w1.heap.size ≤ wr.heap.size ∧ Hid (RowV wr W.heap.size w1.heap.size (.slice A1 X.length c1) X) ∧ Hid (Free B wr W.heap.size w1.heap.size)) (fun _ i _ => X.length - (intOf i).toNat)
  case atStart => exact ⟨0, 0, [], Nat.zero_le _, rfl, rfl, by decide, by decide, Lib.hid (by rw [List.drop_zero]; rfl), hJ1, Nat.le_refl _, HROW, HFR⟩
  case round =>
    obtain ⟨k, a, pre, hk, rfl, rfl, ha0, ha1, HT, hJs, hws, HR, HF⟩ := hrel
    clear HROW HFR hJ1
    by_cases hlt : k < X.length
    · have hx := HM.out X[k] (List.getElem_mem hlt)
      obtain ⟨g, o, cc, hA, hg1, hg2, q1, q2⟩ := HR.out.at hlt
      cases hA
      have HT2 : Hid (pre ++ ((if a < X[k].f0 then [⟨a, X[k].f0 - 1⟩] else []) ++ gapsF (X[k].f1 + 1) (X.drop (k + 1))) = gapsF 0 X) := Lib.hid (by rw [← HT.out, List.drop_eq_getElem_cons hlt, gapsF_cons])
      clear HT
      generalize X[k] = s at *
      have hwr : Hid (wr.heap.size + 1 = (wr.alloc (.cells #[.int .i64 s.f0, .int .i64 s.f1] 31)).heap.size) := Lib.hid (by simp)
      have hba : Below wr.heap.size wr (wr.alloc (.cells #[.int .i64 s.f0, .int .i64 s.f1] 31)) := (Below.refl _ wr).alloc (Nat.le_refl _) _
      have hJa := hJ _ _ _ hJs hba
      have HRa := Lib.hid (HR.out.below hba)
      have HFa := Lib.hid (HF.out.below hba (by omega))
      have e1 : wrap64 (s.f0 - 1) = s.f0 - 1 := w64 _ (by omega) (by omega)
      have e2 : wrap64 (s.f1 + 1) = s.f1 + 1 := w64 _ (by omega) (by omega)
      have hkl : k < xs.length := by omega
      have HB := Lib.hid hba
      clear hba hJs HR
      by_cases ca : a < s.f0
      · rw [if_pos ca] at HT2
        have hd : decide (a < s.f0) = true := decide_eq_true ca
        obtain ⟨fn, tmps, assign, body, hy, hR⟩ := hY pre ⟨a, s.f0 - 1⟩ _ hJa (by rw [← HT2.out]; simp)
        try dsimp only at hy hR
        gi_wp2_with fail
        refine hR.mono ?_
        rintro e W3 (⟨rfl, hJ3, hk3⟩ | ⟨rfl, hJx3⟩)
        · have cx : W3.cell? ⟨wr.heap.size, 1, none⟩ = some (.int .i64 s.f1) := HF.out.new (by omega) hk3 (by unfold World.cell?; rw [heap_alloc_new]; rfl)
          have hs3 := hk3.size
          have HR3 := Lib.hid (HRa.out.keep hk3 hB HFa.out)
          have HF3 := Lib.hid (HFa.out.keep hk3 (by rw [← hwr.out]; omega))
          clear hR hy hk3 hd
          gi_wp2
          go_roundw
          case rel => exact ⟨k + 1, s.f1 + 1, _, by omega, rfl, by simp, by omega, by omega, Lib.hid (by rw [← HT2.out]; simp), hJ3, by rw [← hwr.out] at hs3; omega, HR3, HF3⟩
          case measure => simp [intOf]; omega
        · clear hR hy hd
          gi_wp2
          refine bodyPost_ret (results_none rfl _ _ _) rfl ?_
          exact ⟨⟨_, rfl⟩, .inr ⟨_, ⟨gapsF (s.f1 + 1) (X.drop (k + 1)), by rw [← HT2.out]; simp⟩, hJx3⟩⟩
      · rw [if_neg ca] at HT2
        have hd : decide (a < s.f0) = false := decide_eq_false ca
        have cx : (wr.alloc (.cells #[.int .i64 s.f0, .int .i64 s.f1] 31)).cell? ⟨wr.heap.size, 1, none⟩ = some (.int .i64 s.f1) := by unfold World.cell?; rw [heap_alloc_new]; rfl
        gi_wp2
        refine ⟨fun f h => (by cases h), ?_⟩
        gi_wp2
        go_roundw
        case rel => exact ⟨k + 1, s.f1 + 1, pre, by omega, rfl, by simp, by omega, by omega, Lib.hid (by rw [← HT2.out]; simp), hJa, by rw [← hwr.out]; omega, HRa, HFa⟩
        case measure => simp [intOf]; omega
    · obtain rfl : k = X.length := by omega
      have HT2 : Hid (pre ++ gapsF a [] = gapsF 0 X) := Lib.hid (by rw [← HT.out, List.drop_of_length_le (Nat.le_refl _)])
      clear HT HM
      by_cases ca : a ≤ 16383
      · have hd : decide (a ≤ 16383) = true := decide_eq_true ca
        have hg : gapsF a [] = [⟨a, 16383⟩] := by rw [gapsF, if_pos ca]
        rw [hg] at HT2
        obtain ⟨fn, tmps, assign, body, hy, hR⟩ := hY pre ⟨a, 16383⟩ _ hJs (by rw [← HT2.out]; simp)
        try dsimp only at hy hR
        gi_wp2_with fail
        refine hR.mono ?_
        rintro e W3 (⟨rfl, hJ3, hk3⟩ | ⟨rfl, hJx3⟩)
        · clear hR hy hk3 hd
          gi_wp2
          go_end0
          exact ⟨⟨_, rfl⟩, .inl ⟨_, HT2.out, hJ3⟩⟩
        · clear hR hy hd
          gi_wp2
          go_end0
          exact ⟨⟨_, rfl⟩, .inr ⟨_, ⟨[], by rw [← HT2.out, List.append_nil]⟩, hJx3⟩⟩
      · have hd : decide (a ≤ 16383) = false := decide_eq_false ca
        have hg : gapsF a [] = [] := by rw [gapsF, if_neg ca]
        rw [hg, List.append_nil] at HT2
        gi_wp2
        go_end0
        first
          | exact ⟨⟨_, rfl⟩, .inl ⟨_, HT2.out, hJs⟩⟩
          | exact ⟨⟨_, rfl⟩, .inl (HT2.out ▸ hJs)⟩
end Go.Proofs.YtnlakdpfkgjdaaaDoor.G

/- A region that draws its order, inside a fence: reads and quiet calls first, in the text's order, then the rest one behind the other. A law of no program, over the kit's laws of orders. No conditions. -/
namespace Go.Cav
open Go
variable {F : Fence} {m : Nat} {P : Program} {ops : Array Oper} {md : Region.Mode} {w : World} {Q : Exit → Act → World → Prop}

/-- an operation that leaves the world alone, inside a fence that lets all pass -/
theorem wpIn_of_still {o : Oper} {a : Act} {K : Act → Prop} {K' : Act → World → Prop} (hro : F.round = none) (hF : ∀ f, F.fn f) (hd : F.depth.isSome = true → 1 ≤ m)
    (hC : ∀ f args w X, Calls P f args w X → CallsIn F (m - 1) P f args w X) (h : ∀ a, K a → K' a w) (hh : o.still P a w K) : o.wpIn F m P a w K' Q := by
  unfold Oper.still at hh
  unfold Oper.wpIn
  refine ⟨fun f _ => hF f, ?_⟩
  rw [hro, Oper.semAt_none]
  generalize (execOp a.eval o).run P w = r at *
  cases r with
  | ok x w' =>
    cases x <;> simp only [Oper.stillUpon] at hh <;> simp only [Oper.uponIn]
    case enter f args =>
      obtain ⟨rfl, v, hc, hn⟩ := hh
      exact ⟨hd, (hC _ _ _ _ hc).mono fun e w'' ⟨he, hw⟩ => by subst he; subst hw; exact h _ hn⟩
    all_goals (obtain ⟨rfl, h2⟩ := hh; exact h _ h2)
  | halt x w' => simp only [Oper.stillUpon] at hh
theorem wpOpIn_of_still {i : Nat} {a : Act} {K : Act → Prop} {K' : Act → World → Prop} (hro : F.round = none) (hF : ∀ f, F.fn f) (hd : F.depth.isSome = true → 1 ≤ m)
    (hC : ∀ f args w X, Calls P f args w X → CallsIn F (m - 1) P f args w X) (h : ∀ a, K a → K' a w) (hh : stOp P ops w i K a) : wpOpIn F m P ops Q i K' a w := by
  unfold stOp at hh
  unfold wpOpIn
  split
  · rename_i ho; simp only [ho] at hh; exact h _ hh
  · rename_i o ho
    simp only [ho] at hh
    split
    · rename_i hw; simp only [hw, if_true] at hh; exact wpIn_of_still hro hF hd hC h hh
    · rename_i hw; simp only [hw] at hh; exact ⟨fun f _ => hF f, h _ hh⟩
theorem wpAnyIn_of_head {n g : Nat} {L : Array Bool → Act → Prop} (hro : F.round = none) (hF : ∀ f, F.fn f) (hd : F.depth.isSome = true → 1 ≤ m)
    (hC : ∀ f args w X, Calls P f args w X → CallsIn F (m - 1) P f args w X) (hL : ∀ listed a, L listed a → wpAnyIn F m P md ops Q g listed a w) :
    ∀ (f : Nat) (listed : Array Bool) (a : Act), wpAnyL P md ops w n L f listed a → wpAnyIn F m P md ops Q (f + g) listed a w
  | 0, listed, a, h => by rw [Nat.zero_add]; exact hL _ _ h
  | f + 1, listed, a, h => by
    rw [show f + 1 + g = (f + g) + 1 by omega]
    exact ⟨fun h0 => absurd h0 h.1, fun i hi => wpOpIn_of_still hro hF hd hC (fun a' h' => wpAnyIn_of_head hro hF hd hC hL f _ a' h') (h.2 i hi).2⟩
theorem wpAnyIn_of_seq : ∀ (l : List Oper) (k : Nat) (listed : Array Bool) (a : Act) (w : World), (∀ j, l[j]? = ops[k + j]?) →
    Region.seqB md ops l.length k listed = true → wpListIn F m P ops Q l a w → wpAnyIn F m P md ops Q l.length listed a w
  | [], _, _, _, _, _, hB, h => ⟨by simpa [Region.seqB] using hB, h⟩
  | o :: l, k, listed, a, w, hl, hB, h => by
    have h0 : ops[k]? = some o := by simpa using (hl 0).symm
    simp only [List.length_cons, Region.seqB, Bool.and_eq_true, decide_eq_true_eq] at hB
    refine ⟨fun h1 => (by rw [hB.1] at h1; cases h1), fun i hi => ?_⟩
    rw [hB.1] at hi
    obtain rfl : i = k := by simpa using hi
    have hw : wpOpIn F m P ops Q i (wpListIn F m P ops Q l) a w := by unfold wpOpIn; simp only [h0]; exact h
    exact wpOpIn_mono (fun a' w' h' => wpAnyIn_of_seq l (i + 1) _ a' w' (fun j => by have := hl (j + 1); simpa [Nat.add_assoc, Nat.add_comm 1 j] using this) hB.2 h') hw
theorem wpIn_region_still_tail {id : Nat} {a : Act} {l : List Oper} (n : Nat) (hro : F.round = none) (hF : ∀ f, F.fn f) (hd : F.depth.isSome = true → 1 ≤ m)
    (hC : ∀ f args w X, Calls P f args w X → CallsIn F (m - 1) P f args w X) (hm : P.follows .mixedOrders = true) (hB : Region.lexTailB .any l.toArray n = true)
    (h : wpStill P l.toArray w.drew (fun a' => wpListIn F m P l.toArray Q (l.drop n) a' w.drew) (l.take n) a) : (Code.region id l.toArray true).wpIn F m P Q a w := by
  simp only [Region.lexTailB, Bool.and_eq_true, decide_eq_true_eq] at hB
  obtain ⟨⟨⟨⟨hsel, hn⟩, hs⟩, hc⟩, hlex⟩ := hB
  have hn' : n < l.length := by simpa using hn
  have htl : (l.take n).length = n := by rw [List.length_take]; omega
  have hdl : (l.drop n).length = l.toArray.size - n := by rw [List.length_drop]; rfl
  have inv0 : HeadInv .any l.toArray n (Array.replicate l.toArray.size false) :=
    ⟨by simp, fun j oj _ hl => (by rw [getD_replicate_false] at hl; cases hl), fun t _ ht => getD_in (by simpa using ht) (getD_replicate_false _ _)⟩
  have H := wpAnyL_lex (md := .any) (g := l.toArray.size - n) hsel hs hc hn (l.take n) 0 _ a (fun j hj => by
    have hj' : j < n := by rw [htl] at hj; exact hj
    simp [hj']) (by simpa using htl) inv0 (by rw [htl]; exact hlex) h
  refine wpIn_region_any hm ?_
  have key := wpAnyIn_of_head (F := F) (m := m) (Q := Q) (g := l.toArray.size - n) hro hF hd hC (fun listed a' hL => by
    have := wpAnyIn_of_seq (F := F) (m := m) (md := .any) (Q := Q) (l.drop n) n listed a' w.drew (fun j => by simp [List.getElem?_drop]) (by rw [hdl]; exact hL.1) hL.2
    rwa [hdl] at this) _ _ _ H
  rw [htl, show n + (l.toArray.size - n) = l.toArray.size by omega] at key
  exact key
end Go.Cav

/- What the iterator over the pairs of two lists that meet hands on, at a body that grows one row behind a box. Conditions: bounds on the lists' lengths. -/
namespace Go.Proofs.YtnlakdpfkgjdaaaDoor.G
open Go.RowKit Go.Shelf Go.Cav Go.Proofs.YtnlakdpfkgjdaaaDoorW.PrintWords Go.Proofs.YtnlakdpfkgjdaaaDoorW.PrintLast Go.Proofs.YtnlakdpfkgjdaaaDoorW.PrintMore
attribute [local go_sem] Oper.semAt_some
abbrev encP (p : S31 × S31) : Array Value := #[.agg #[.int .i64 p.1.f0, .int .i64 p.1.f1], .agg #[.int .i64 p.2.f0, .int .i64 p.2.f1]]
theorem RowV.mono {W : World} {N M N' M' : Nat} {v : Value} {xs : List S31} (h : RowV W N M v xs) (hN : N' ≤ N) (hM : M ≤ M') : RowV W N' M' v xs := by
  obtain ⟨A, c, rfl, h1, h2⟩ := h
  refine ⟨A, c, rfl, h1, fun hx => ?_⟩
  obtain ⟨g, o, rfl, h3, h4, h5⟩ := h2 hx
  exact ⟨g, o, rfl, by omega, by omega, h5⟩
def lenV : Value → Nat
  | .slice _ n _ => n
  | _ => 0
theorem pairsS_nil (k : Nat) (y : List S31) : pairsS k [] y = [] := by cases k <;> rfl
theorem pairsS_nil2 (k : Nat) (x : List S31) : pairsS k x [] = [] := by cases k with
  | zero => rfl
  | succ k => cases x <;> rfl
theorem pairsS_cons (k : Nat) (s : S31) (x : List S31) (u : S31) (y : List S31) : pairsS (k + 1) (s :: x) (u :: y) = (if max s.f0 u.f0 ≤ min s.f1 u.f1 then [(s, u)] else []) ++ (if s.f1 < u.f1 then pairsS k x (u :: y) else pairsS k (s :: x) y) := by
  rw [pairsS]; split <;> simp
/-- where a slice begins behind its first element -/
def tlo (o d : Nat) : Nat := if d = 1 then o else o + 2
theorem run_drop2 (g o n d : Nat) (h : n + 1 ≤ d) (W : World) :
    (Instr.slice 23 (.slice (some ⟨g, o, none⟩) (n + 1) d) (some (.int .i64 1)) none none).run Tryd.prog W = .ok (.slice (some ⟨g, tlo o d, none⟩) n (d - 1)) W := by
  rw [run_slice_l W 23 (some ⟨g, o, none⟩) (n + 1) d (by kernel_rfl) .i64 1 (by omega) (by omega)]
  have hs : (sizeOf (Tryd.prog.elem 23)).run Tryd.prog W = .ok 2 W := by kernel_rfl
  rw [hs]
  simp only [Result.andThen, sliced, tlo, Int.toNat_one, Option.map_some, Nat.add_sub_cancel]
  split <;> rfl
set_option maxRecDepth 100000 in
set_option maxHeartbeats 4000000 in
theorem pairs_in (B Ba Bb n : Nat) (hn : 1 ≤ n) (l : Nat) (A : Option Addr) (c : Nat) (xs : List S31) (A2 : Option Addr) (c2 : Nat) (ys : List S31) (hxs : xs.length ≤ 1000000000) (hys : ys.length ≤ 1000000000)
    (J Jx : List (S31 × S31) → World → Prop) (W : World) (hJ : ∀ s X Y, J s X → Below X.heap.size X Y → J s Y)
    (hY : Yields B n l encP (pairsS ((normS xs).length + (normS ys).length) (normS xs) (normS ys)) J Jx)
    (hB : B < W.heap.size) (hfree : ownAt B W = none) (hba : W.cell? ⟨Ba, 0, none⟩ = some (.slice A xs.length c)) (hC : Kd.C k31 W A xs.length xs) (hcl : xs.length ≤ c)
    (hbb : W.cell? ⟨Bb, 0, none⟩ = some (.slice A2 ys.length c2)) (hC2 : Kd.C k31 W A2 ys.length ys) (hcl2 : ys.length ≤ c2) (h0 : J [] W) :
    CallsIn Fence.wide n Tryd.prog 58 #[.func (.yield l) #[] #[], .pointer (some ⟨Ba, 0, none⟩), .pointer (some ⟨Bb, 0, none⟩)] W fun e W' => (∃ v, e = .returned v) ∧
      ((∃ zs, zs = pairsS ((normS xs).length + (normS ys).length) (normS xs) (normS ys) ∧ J zs W') ∨ (∃ pre, pre <+: pairsS ((normS xs).length + (normS ys).length) (normS xs) (normS ys) ∧ Jx pre W')) := by
  have hNa : ∀ w', Below W.heap.size W w' → _ := fun w' hb => norm_any A c xs w' (Kd.C_below hC hb) hcl hxs
  have hNb : ∀ w', Below W.heap.size W w' → _ := fun w' hb => norm_any A2 c2 ys w' (Kd.C_below hC2 hb) hcl2 hys
  have hln := normS_len xs
  have hln2 := normS_len ys
  have hmay := mayF_in (norm_spec xs).1 (Int.le_refl _)
  have hmay2 := mayF_in (norm_spec ys).1 (Int.le_refl _)
  refine callsIn_of_wp Tryd.func58 rfl trivial ?_ rfl
  simp only [Tryd.ntmps58, List.size_toArray, List.length_cons, List.length_nil, Nat.reduceAdd, Nat.reduceSub, Array.replicate_succ, Array.replicate_zero, List.push_toArray, List.append_toArray, List.nil_append, List.cons_append]
  generalize normS xs = X at *
  generalize normS ys = Y at *
  gi_wp2_with fail
  gi_cut [4, 5] from 6 (fun v4 v5 wx => Below W.heap.size W wx ∧ RowV wx W.heap.size wx.heap.size v4 X ∧ RowV wx W.heap.size wx.heap.size v5 Y)
  case first =>
    have hd0 : Below W.heap.size W W.drew := ((Stir.refl (fun _ => False) W).drew).below (Nat.le_refl _) (fun _ e => e.elim)
    have hbad : W.drew.cell? ⟨Ba, 0, none⟩ = some (.slice A xs.length c) := hba
    have hbbd : W.drew.cell? ⟨Bb, 0, none⟩ = some (.slice A2 ys.length c2) := hbb
    have hNa0 := hNa _ hd0
    have hNb0 := hNb _ hd0
    have HD0 := Lib.hid hd0
    clear hd0
    gi_region_with (first
      | ((with_reducible refine And.intro ?_ ?_); (· exact trivial); (with_reducible refine (callsIn_wide.2 hNa0).mono ?_); rintro e w1 ⟨v1, rfl, hR1, hb1⟩; have qb1 := (Stir.of_below hb1 (fun _ => False)).cell hbbd (fun e => e); have HR1 := Lib.hid hR1; clear hR1)
      | ((with_reducible refine And.intro ?_ ?_); (· exact trivial); (with_reducible refine (callsIn_wide.2 hNb0).mono ?_); rintro e w2 ⟨v2, rfl, hR2, hb2⟩; have qa2 := (Stir.of_below hb2 (fun _ => False)).cell hbad (fun e => e); have HR2 := Lib.hid hR2; clear hR2)
      | ((with_reducible refine And.intro ?_ ?_); (· exact trivial); (with_reducible refine (callsIn_wide.2 (hNa _ (HD0.out.trans (hb2.mono HD0.out.size)))).mono ?_); rintro e w1 ⟨v1, rfl, hR1, hb1⟩)
      | ((with_reducible refine And.intro ?_ ?_); (· exact trivial); (with_reducible refine (callsIn_wide.2 (hNb _ (HD0.out.trans (hb1.mono HD0.out.size)))).mono ?_); rintro e w2 ⟨v2, rfl, hR2, hb2⟩))
    all_goals (
      gi_wp2_with fail
      gi_meet
      first
        | exact ⟨(HD0.out.trans hb1).trans (hb2.mono hb1.size), ((rowV_of HR1.out).below hb2).mono (Nat.le_refl _) hb2.size, (rowV_of hR2).mono hb1.size (Nat.le_refl _)⟩
        | exact ⟨(HD0.out.trans hb2).trans (hb1.mono hb2.size), (rowV_of hR1).mono hb2.size (Nat.le_refl _), ((rowV_of HR2.out).below hb1).mono (Nat.le_refl _) hb1.size⟩)
  case rest =>
    obtain ⟨hbw, hr4, hr5⟩ := hcut
    have hfr : Free B wc W.heap.size wc.heap.size := fun k hk => by rw [ownAt_below hbw hB, hfree] at hk; cases hk
    have hJ1 := hJ _ _ _ h0 hbw
    have hsz := hbw.size
    have HF0 := Lib.hid hfr
    have HR4 := Lib.hid hr4
    have HR5 := Lib.hid hr5
    clear hNa hNb hC hC2 hba hbb hfr hr4 hr5 h0
    gi_wp2_with fail
    gi_loopw [4, 5] (fun v4 v5 wr => ∃ pre x y, Hid (pre ++ pairsS (x.length + y.length) x y = pairsS (X.length + Y.length) X Y) ∧ x.length ≤ X.length ∧ y.length ≤ Y.length ∧ J pre wr ∧ wc.heap.size ≤ wr.heap.size ∧ Hid (RowV wr W.heap.size wc.heap.size v4 x) ∧ Hid (RowV wr W.heap.size wc.heap.size v5 y) ∧ Hid (Free B wr W.heap.size wc.heap.size)) (fun v4 v5 _ => lenV v4 + lenV v5)
    case atStart => exact ⟨[], X, Y, rfl, Nat.le_refl _, Nat.le_refl _, hJ1, Nat.le_refl _, HR4, HR5, HF0⟩
    case round =>
      obtain ⟨pre, x, y, HT, hxl, hyl, hJs, hws, HX, HY, HF⟩ := hrel
      clear HF0 HR4 HR5 hJ1
      cases x with
      | nil =>
        obtain ⟨A3, c3, hA3, _, _⟩ := HX.out
        obtain ⟨A4, c4, hA4, _, _⟩ := HY.out
        subst hA3; subst hA4
        have HT2 : Hid (pre = pairsS (X.length + Y.length) X Y) := Lib.hid (by rw [← HT.out, pairsS_nil, List.append_nil])
        clear HT
        simp only [List.length_nil] at *
        gi_wp2
        go_end0
        first
          | exact ⟨⟨_, rfl⟩, .inl ⟨_, HT2.out, hJs⟩⟩
          | exact ⟨⟨_, rfl⟩, .inl (HT2.out ▸ hJs)⟩
      | cons s x =>
        obtain ⟨g, o, d, hv4, hd, hg1, hg2, q1, q2, hrest⟩ := HX.out.cons
        subst hv4
        have HXR := Lib.hid hrest
        clear hrest
        cases y with
        | nil =>
          obtain ⟨A4, c4, hA4, _, _⟩ := HY.out
          subst hA4
          have HT2 : Hid (pre = pairsS (X.length + Y.length) X Y) := Lib.hid (by rw [← HT.out, pairsS_nil2, List.append_nil])
          clear HT
          have e1 : (0 : Int) < (x.length : Int) + 1 := by omega
          simp only [List.length_nil] at *
          gi_wp2
          go_end0
          first
            | exact ⟨⟨_, rfl⟩, .inl ⟨_, HT2.out, hJs⟩⟩
            | exact ⟨⟨_, rfl⟩, .inl (HT2.out ▸ hJs)⟩
        | cons u y =>
          obtain ⟨g', o', d', hv5, hd', hg1', hg2', q1', q2', hrest'⟩ := HY.out.cons
          subst hv5
          have HYR := Lib.hid hrest'
          clear hrest'
          have e1 : (0 : Int) < (x.length : Int) + 1 := by omega
          have e2 : (0 : Int) < (y.length : Int) + 1 := by omega
          have hk : (s :: x).length + (u :: y).length = (x.length + (y.length + 1)) + 1 := by simp only [List.length_cons]; omega
          have HT2 : Hid (pre ++ (if max s.f0 u.f0 ≤ min s.f1 u.f1 then [(s, u)] else []) ++ (if s.f1 < u.f1 then pairsS (x.length + (u :: y).length) x (u :: y) else pairsS ((s :: x).length + y.length) (s :: x) y) = pairsS (X.length + Y.length) X Y) := Lib.hid (by
            rw [← HT.out, hk, pairsS_cons, List.append_assoc]
            simp only [List.length_cons]
            rw [show x.length + 1 + y.length = x.length + (y.length + 1) by omega])
          clear HT
          simp only [List.length_cons] at hxl hyl
          gi_wp2_with fail
          gi_cut [47] from 61 (fun v47 wx => (v47 = .bool false ∧ ∃ pre', Hid (pre' ++ (if s.f1 < u.f1 then pairsS (x.length + (u :: y).length) x (u :: y) else pairsS ((s :: x).length + y.length) (s :: x) y) = pairsS (X.length + Y.length) X Y) ∧ J pre' wx ∧ wc.heap.size ≤ wx.heap.size ∧ Hid (RowV wx W.heap.size wc.heap.size (.slice (some ⟨g, o, none⟩) (x.length + 1) d) (s :: x)) ∧ Hid (RowV wx W.heap.size wc.heap.size (.slice (some ⟨g', o', none⟩) (y.length + 1) d') (u :: y)) ∧ Hid (Free B wx W.heap.size wc.heap.size)) ∨ (v47 = .bool true ∧ Hid (pre ++ [(s, u)] <+: pairsS (X.length + Y.length) X Y) ∧ Jx (pre ++ [(s, u)]) wx))
          case first =>
            by_cases hm : max s.f0 u.f0 ≤ min s.f1 u.f1
            · refine wpIn_region_still_tail 27 rfl (fun _ => trivial) (fun h => by cases h) (fun f args w X h => callsIn_wide.2 h) (by kernel_rfl) (by kernel_rfl) ?_
              simp only [List.take_succ_cons, List.take_zero, List.drop_succ_cons, List.drop_zero]
              change wpStill _ _ wr.drew _ _ _
              repeat still_step
              refine wpStill_nil ?_
              have hbd : Below wr.heap.size wr wr.drew := ((Stir.refl (fun _ => False) wr).drew).below (Nat.le_refl _) (fun _ e => e.elim)
              obtain ⟨fn, tmps, assign, body, hy, hR⟩ := hY pre (s, u) wr.drew (hJ _ _ _ hJs hbd) (by rw [← HT2.out, if_pos hm]; simp)
              have HXd := Lib.hid (HX.out.below hbd)
              have HYd := Lib.hid (HY.out.below hbd)
              have HFd := Lib.hid (HF.out.below hbd (by omega))
              have hsd := hbd.size
              try dsimp only at hy hR
              clear hbd q1 q2 q1' q2' hJs
              change wpListIn _ _ _ _ _ _ _ wr.drew
              gi_wp2_with fail
              refine hR.mono ?_
              rintro e W3 (⟨rfl, hJ3, hk3⟩ | ⟨rfl, hJx3⟩)
              · have hs3 := hk3.size
                have HX3 := Lib.hid (HXd.out.keep hk3 (by omega) HFd.out)
                have HY3 := Lib.hid (HYd.out.keep hk3 (by omega) HFd.out)
                have HF3 := Lib.hid (HFd.out.keep hk3 (by omega))
                clear hR hy hk3
                gi_wp2_with fail
                gi_meet
                refine .inl ⟨rfl, _, Lib.hid (by rw [← HT2.out, if_pos hm]), hJ3, by omega, HX3, HY3, HF3⟩
              · clear hR hy
                gi_wp2_with fail
                gi_meet
                refine .inr ⟨rfl, Lib.hid ⟨_, by rw [← HT2.out, if_pos hm]⟩, hJx3⟩
            · have hdf : decide (max s.f0 u.f0 ≤ min s.f1 u.f1) = false := decide_eq_false hm
              have HT4 : Hid (pre ++ (if s.f1 < u.f1 then pairsS (x.length + (u :: y).length) x (u :: y) else pairsS ((s :: x).length + y.length) (s :: x) y) = pairsS (X.length + Y.length) X Y) := Lib.hid (by rw [← HT2.out, if_neg hm, List.append_nil])
              have k1 : ∀ n, (wr.drewN n).cell? ⟨g, o, none⟩ = some (.int .i64 s.f0) := fun n => ((Stir.refl (fun _ => False) wr).drewN n).cell q1 (fun e => e)
              have k2 : ∀ n, (wr.drewN n).cell? ⟨g, o + 1, none⟩ = some (.int .i64 s.f1) := fun n => ((Stir.refl (fun _ => False) wr).drewN n).cell q2 (fun e => e)
              have k3 : ∀ n, (wr.drewN n).cell? ⟨g', o', none⟩ = some (.int .i64 u.f0) := fun n => ((Stir.refl (fun _ => False) wr).drewN n).cell q1' (fun e => e)
              have k4 : ∀ n, (wr.drewN n).cell? ⟨g', o' + 1, none⟩ = some (.int .i64 u.f1) := fun n => ((Stir.refl (fun _ => False) wr).drewN n).cell q2' (fun e => e)
              clear hm HT2 q1 q2 q1' q2'
              refine wpIn_region_quiet_lit rfl (by kernel_rfl) (by kernel_rfl) ?_
              repeat (gi_big_quiet_step (fail))
              refine BigFrame.wpQuietIn_skip (fun _ _ _ _ => trivial) (by kernel_rfl) ?_
              simp only [Act.put, List.setIfInBounds_toArray, List.set_cons_succ, List.set_cons_zero]
              repeat (gi_big_quiet_step (fail))
              refine wpQuietIn_nil ?_
              rintro _ ⟨nq, rfl⟩
              have hbd : Below wr.heap.size wr (wr.drewN nq) := ((Stir.refl (fun _ => False) wr).drewN nq).below (Nat.le_refl _) (fun _ e => e.elim)
              have HXd := Lib.hid (HX.out.below hbd)
              have HYd := Lib.hid (HY.out.below hbd)
              have HFd := Lib.hid (HF.out.below hbd (by omega))
              have hJd := hJ _ _ _ hJs hbd
              have hsd := hbd.size
              clear hbd k1 k2 k3 k4 hJs
              gi_wp2_with fail
              gi_meet
              exact .inl ⟨rfl, _, HT4, hJd, by omega, HXd, HYd, HFd⟩
          case rest =>
            rcases hcut with ⟨rfl, pre', HT3, hJ3, hw3, HX3, HY3, HF3⟩ | ⟨rfl, HP3, hJx3⟩
            · obtain ⟨g3, o3, d3, hv3, _, _, _, _, p2, hr3⟩ := HX3.out.cons
              cases hv3
              obtain ⟨g4, o4, d4, hv4, _, _, _, _, p4, hr4⟩ := HY3.out.cons
              cases hv4
              have HR3 := Lib.hid hr3
              have HR4 := Lib.hid hr4
              have k2 : ∀ n, (wc.drewN n).cell? ⟨g, o + 1, none⟩ = some (.int .i64 s.f1) := fun n => ((Stir.refl (fun _ => False) wc).drewN n).cell p2 (fun e => e)
              have k4 : ∀ n, (wc.drewN n).cell? ⟨g', o' + 1, none⟩ = some (.int .i64 u.f1) := fun n => ((Stir.refl (fun _ => False) wc).drewN n).cell p4 (fun e => e)
              clear hr3 hr4 p2 p4 HX HY HF HXR HYR hJs HT2 q1 q2 q1' q2'
              gi_wp2_with fail
              by_cases hlt : s.f1 < u.f1
              · have hdl : decide (s.f1 < u.f1) = true := decide_eq_true hlt
                rw [if_pos hlt] at HT3
                gi_big_quiet_th (fail)
                have hbd : Below wc.heap.size wc (wc.drewN nq) := ((Stir.refl (fun _ => False) wc).drewN nq).below (Nat.le_refl _) (fun _ e => e.elim)
                have HYd := Lib.hid (HY3.out.below hbd)
                have HFd := Lib.hid (HF3.out.below hbd (by omega))
                have hJd := hJ _ _ _ hJ3 hbd
                have hsd := hbd.size
                have hsl := run_drop2 g o x.length d hd
                have HX1 := Lib.hid ((HR3.out (tlo o d) (d - 1) (by omega) (fun e => if_neg e)).below hbd)
                clear hbd k2 k4 hJ3 HR3 HR4
                gi_wp2
                refine ⟨⟨pre', x, u :: y, HT3, by omega, hyl, hJd, by omega, HX1, HYd, HFd⟩, ?_⟩
                show x.length + (y.length + 1) < (x.length + 1) + (y.length + 1)
                omega
              · have hdl : decide (s.f1 < u.f1) = false := decide_eq_false hlt
                rw [if_neg hlt] at HT3
                gi_big_quiet_th (fail)
                have hbd : Below wc.heap.size wc (wc.drewN nq) := ((Stir.refl (fun _ => False) wc).drewN nq).below (Nat.le_refl _) (fun _ e => e.elim)
                have HXd := Lib.hid (HX3.out.below hbd)
                have HFd := Lib.hid (HF3.out.below hbd (by omega))
                have hJd := hJ _ _ _ hJ3 hbd
                have hsd := hbd.size
                have hsl := run_drop2 g' o' y.length d' hd'
                have HY1 := Lib.hid ((HR4.out (tlo o' d') (d' - 1) (by omega) (fun e => if_neg e)).below hbd)
                clear hbd k2 k4 hJ3 HR3 HR4
                gi_wp2
                refine ⟨⟨pre', s :: x, y, HT3, hxl, by omega, hJd, by omega, HXd, HY1, HFd⟩, ?_⟩
                show (x.length + 1) + y.length < (x.length + 1) + (y.length + 1)
                omega
            · gi_wp2
              refine bodyPost_ret (results_none rfl _ _ _) rfl ?_
              exact ⟨⟨_, rfl⟩, .inr ⟨_, HP3.out, hJx3⟩⟩
end Go.Proofs.YtnlakdpfkgjdaaaDoor.G

/- A range over a function whose iterator writes cells of its own, and whose loop variable lies in a block of its own: a law of no program, over the kit's laws of the loop's record. No conditions. -/
namespace Go.Cav
open Go Go.RowKit
variable {F : Fence} {n : Nat} {P : Program}
theorem wpIn_rangeFunc_U {α : Type} {g : Operand} {ps : Array Tmp} {assign body : Code} {Q : Exit → Act → World → Prop} {a : Act} {w : World}
    (hro : F.round = none) (h1 : 1 ≤ n) {gf : Nat} {lb : Array Value} (hg : a.eval g = .func (.func gf) #[] lb) (hFg : F.fn gf) (eg : ∀ args w, (callFunc gf args).run P w = .ok (.enter gf args) w)
    {encs : α → Array Value} {Kp Rs : World → World → Prop} {S Sp : List α → World → Prop} {N : Nat} {w0 : World} (hseq : SeqT F (n - 1) P gf lb encs Kp Rs S Sp N w0) (hRs : Plain Rs)
    (hKt : ∀ {A B C : World}, Kp A B → Kp B C → Kp A C) (hKb : ∀ (W : World) (l : Nat) (o o' : Obj), w.heap.size ≤ l → W.heap[l]? = some o → o.isCells = false → o.isWalk = false → Kp W (W.putObj l o')) (hb0 : Below w0.heap.size w0 w) (hps : ∀ x, (encs x).size = ps.size)
    (I : List α → World → Prop) (Ix : Code → List α → World → Prop) (hI : OwnFrom w.heap.size I) (hIx : ∀ c, OwnFrom w.heap.size (Ix c)) (hIR : ∀ s A B, I s A → Rs A B → I s B) (hIxR : ∀ c s A B, Ix c s A → Rs A B → Ix c s B) (h0 : I [] w) (Ax : α → Act → World → Prop) (hAx : ∀ x a', OwnFrom w.heap.size (fun (_ : Unit) W => Ax x a' W))
    (hassign : ∀ (l : Nat) (pre : List α) (x : α) (W : World) (K : Act → World → Prop), I pre W → (∀ a' W', KeepsFrom w.heap.size W W' → Kp W W' → I pre W' → Ax x a' W' → K a' W') →
      assign.wpIn (F.inRound l) (n - 1 - 1) P (Exit.then K (fun _ _ _ => False)) { tmps := (ps.zip (encs x)).foldl (fun t (p, v) => t.setIfInBounds p v) a.tmps, defers := [] } W)
    (hbody : ∀ (l : Nat) (pre : List α) (x : α) (a' : Act) (W : World), I pre W → Ax x a' W → pre.length < N → body.wpIn (F.inRound l) (n - 1 - 1) P (ownPostG w.heap.size Kp I Ix (pre ++ [x]) W) a' W)
    (hdone : ∀ (D : Nat) (xs : List α) (W W0 : World), w.heap.size ≤ D → S xs W0 → W = W0.putObj (D + 1) (W.heap.getD (D + 1) (.deferred none)) → I xs W → W.heap[D]? = some (.deferred (some [])) → Q .normal { a with defers := { target := .collected D, args := #[] } :: a.defers } W)
    (hstop : ∀ (D : Nat) (c : Code) (pre : List α) (W W0 : World), w.heap.size ≤ D → Sp pre W0 → Ix c pre W → W.heap[D]? = some (.deferred (some [])) → c.wpIn F n P Q { a with defers := { target := .collected D, args := #[] } :: a.defers } W) :
    (Code.rangeFunc g ps assign body).wpIn F n P Q a w := by
  refine wpIn_rangeFunc fun fn hfn => ?_
  rw [hro]
  obtain ⟨L, hL⟩ : ∃ L, L = w.heap.size + 1 := ⟨_, rfl⟩
  obtain ⟨rec, hrec⟩ : ∃ rec : LoopState → Option Code → Loop, rec = fun st pe => { state := st, pending := pe, fn, tmps := a.tmps, params := ps, assign, body, defers := w.heap.size } := ⟨_, rfl⟩
  obtain ⟨V, hV⟩ : ∃ V, (w.alloc (.deferred (some []))).alloc (.loop (rec .ready none)) = V := ⟨_, rfl⟩
  have vL : V.heap[L]? = some (.loop (rec .ready none)) := by
    rw [← hV, hL]; have := World.alloc_heap_new (w.alloc (.deferred (some []))) (.loop (rec .ready none)); rwa [World.size_alloc] at this
  have vK : V.heap[w.heap.size]? = some (.deferred (some [])) := by
    rw [← hV]; exact (Below.heap_alloc _ _ _ (by simp)).trans (World.alloc_heap_new w _)
  have vI : I [] V := by rw [← hV]; exact hI.alloc _ (hI.alloc _ h0)
  have vb : Below w0.heap.size w0 V := by
    rw [← hV]; exact hb0.trans ((((Below.refl _ w).alloc (Nat.le_refl _) _).alloc (by simp) _).mono hb0.size)
  refine ⟨L, [{ target := .collected w.heap.size, args := #[] }], V, { target := .fn (.func gf) lb, args := #[.func (.yield L) #[] #[]] }, V, gf, #[.func (.yield L) #[] #[]] ++ lb, V, ?_, ?_, ?_, ?_, fun _ => h1, ?_⟩
  · rw [← hV, hrec, hL]; exact run_enterLoop_outer _ _ _ _ _
  · simp only [resolve, hg]
    simp [go_sem]
  · intro f' hf'; simp [Target.leads] at hf'; subst hf'; exact hFg
  · simp [invoke, go_sem, eg]
  refine (hseq L (fun pre W => I pre W ∧ W.heap[L]? = some (.loop (rec .ready none)) ∧ W.heap[w.heap.size]? = some (.deferred (some [])))
    (fun pre W => ∃ c, Ix c pre W ∧ W.heap[L]? = some (.loop (rec .done (some c))) ∧ W.heap[w.heap.size]? = some (.deferred (some [])))
    V vb (fun s A B hs hr => ⟨hIR s A B hs.1 hr, hRs A B _ _ hr hs.2.1 rfl rfl, hRs A B _ _ hr hs.2.2 rfl rfl⟩)
    (fun s A B ⟨c, hc, hl, hk⟩ hr => ⟨c, hIxR c s A B hc hr, hRs A B _ _ hr hl rfl rfl, hRs A B _ _ hr hk rfl rfl⟩) ?_ ⟨vI, vL, vK⟩).mono ?_
  · rintro pre x W ⟨hi, hl, hk⟩ hlen
    have hlt : L < W.heap.size := (Array.getElem?_eq_some_iff.1 hl).1
    have hy := run_yield (P := P) (args := encs x) hl (by rw [hrec]; exact hps x)
    rw [hrec] at hy
    refine ⟨fn, _, assign, body, hy, roundIn_of_wpIn hfn (hassign _ pre x W _ hi ?_)⟩
    clear hy
    intro a' Wa hkfa hkpa hia hax
    replace hl := hkfa.same _ _ (by omega) hl rfl
    replace hk := hkfa.same _ _ (Nat.le_refl _) hk rfl
    replace hlt : L < Wa.heap.size := (Array.getElem?_eq_some_iff.1 hl).1
    replace hi := hia
    clear hia hkfa
    revert hkpa
    generalize W = Wb
    intro hkpa
    obtain ⟨W, rfl⟩ : ∃ W, W = Wa := ⟨_, rfl⟩
    refine ⟨_, run_beginRound hl (by rw [hrec]), ?_⟩
    obtain ⟨B, hB⟩ : ∃ B, W.putObj L (.loop { rec .ready none with state := .busy }) = B := ⟨_, rfl⟩
    have bL : B.heap[L]? = some (.loop { rec .ready none with state := .busy }) := by rw [← hB]; exact World.putObj_heap_same hlt
    have bK : B.heap[w.heap.size]? = some (.deferred (some [])) := by rw [← hB]; exact (World.putObj_heap_other (by omega)).trans hk
    have bP : Kp W B := by rw [← hB]; exact hKb _ _ _ _ (by omega) hl rfl rfl
    have bI : I pre B := by rw [← hB]; exact hI.putObj _ hi (by omega) hl rfl
    have bA : Ax x a' B := by rw [← hB]; exact (hAx x a').putObj (s := ()) _ hax (by omega) hl rfl
    rw [hB]
    refine wpIn_mono (hbody _ pre x a' B bI bA hlen) ?_
    have fin : ∀ (jump : Option Code) (Z : World), KeepsFrom w.heap.size B Z →
        (Instr.endRound L jump).run P Z = .ok (.bool jump.isNone) (Z.putObj L (.loop (rec (if jump.isNone then .ready else .done) jump))) ∧ Z.heap[L]? = some (.loop { rec .ready none with state := .busy }) ∧
        (Z.putObj L (.loop (rec (if jump.isNone then .ready else .done) jump))).heap[L]? = some (.loop (rec (if jump.isNone then .ready else .done) jump)) ∧
        (Z.putObj L (.loop (rec (if jump.isNone then .ready else .done) jump))).heap[w.heap.size]? = some (.deferred (some [])) := by
      intro jump Z hz
      have zL := hz.same _ _ (by omega) bL rfl
      have hend := run_endRound (P := P) jump zL
      rw [hrec] at hend ⊢
      exact ⟨hend, by rw [hrec] at zL; exact zL, World.putObj_heap_same (Array.getElem?_eq_some_iff.1 zL).1, (World.putObj_heap_other (by omega)).trans (hz.same _ _ (Nat.le_refl _) bK rfl)⟩
    rintro e a3 Z hp
    cases e with
    | normal =>
      obtain ⟨hz, hkp, hi3⟩ := hp
      obtain ⟨hr, zL, zL2, zK⟩ := fin none Z hz
      exact ⟨_, _, hr, .inl ⟨rfl, ⟨hI.putObj _ hi3 (by omega) zL rfl, zL2, zK⟩, hKt hkpa (hKt (hKt bP hkp) (hKb _ _ _ _ (by omega) zL rfl rfl))⟩⟩
    | ret =>
      obtain ⟨hr, zL, zL2, zK⟩ := fin (some .ret) Z hp.1
      exact ⟨_, _, hr, .inr ⟨rfl, .ret, (hIx _).putObj _ hp.2 (by omega) zL rfl, zL2, zK⟩⟩
    | exit id =>
      obtain ⟨hr, zL, zL2, zK⟩ := fin (some (.exit id)) Z hp.1
      exact ⟨_, _, hr, .inr ⟨rfl, .exit id, (hIx _).putObj _ hp.2 (by omega) zL rfl, zL2, zK⟩⟩
    | goto t =>
      obtain ⟨hr, zL, zL2, zK⟩ := fin (some (.goto t)) Z hp.1
      exact ⟨_, _, hr, .inr ⟨rfl, .goto t, (hIx _).putObj _ hp.2 (by omega) zL rfl, zL2, zK⟩⟩
    | panic ch => exact hp.elim
    | outgrown => exact hp.elim
  · rintro e Z ⟨⟨v, rfl⟩, (⟨xs, hS, hi, hl, hk⟩ | ⟨pre, hSp, c, hi, hl, hk⟩)⟩
    · have hend := run_endLoop (P := P) hl (by rw [hrec]; simp)
      rw [hrec] at hend
      refine ⟨none, _, hend, ?_⟩
      refine hdone _ xs _ Z (Nat.le_refl _) hS ?_ (hI.putObj _ hi (by omega) hl rfl) ((World.putObj_heap_other (by omega)).trans hk)
      rw [← hL]
      congr 1
      rw [Array.getD_eq_getD_getElem?, World.putObj_heap_same (Array.getElem?_eq_some_iff.1 hl).1]; rfl
    · have hend := run_endLoop (P := P) hl (by rw [hrec]; simp)
      rw [hrec] at hend
      exact ⟨some c, _, hend, hstop _ c pre _ Z (Nat.le_refl _) hSp ((hIx c).putObj _ hi (by omega) hl rfl) ((World.putObj_heap_other (by omega)).trans hk)⟩
end Go.Cav

/- What slices.Collect makes of a list's gaps. Conditions: a bound on the list's length. -/
namespace Go.Proofs.YtnlakdpfkgjdaaaDoor.G
open Go.RowKit Go.Shelf Go.Cav Go.Proofs.YtnlakdpfkgjdaaaDoorW.PrintWords Go.Proofs.YtnlakdpfkgjdaaaDoorW.PrintLast Go.Proofs.YtnlakdpfkgjdaaaDoorW.PrintMore
attribute [local go_sem] Oper.semAt_some
theorem gaps_seq (B Bl n : Nat) (hn : 1 ≤ n) (A : Option Addr) (c : Nat) (xs : List S31) (hxs : xs.length ≤ 1000000000) (w : World)
    (hB : B < w.heap.size) (hfree : ownAt B w = none) (hbl : w.cell? ⟨Bl, 0, none⟩ = some (.slice A xs.length c)) (hC : Kd.C k31 w A xs.length xs) (hcl : xs.length ≤ c) :
    SeqT Fence.wide n Tryd.prog 57 #[.pointer (some ⟨Bl, 0, none⟩)] encS (KpB B) (fun X Y => Below X.heap.size X Y)
      (fun ys _ => ys = gapsF 0 (normS xs)) (fun pre _ => pre <+: gapsF 0 (normS xs)) (gapsF 0 (normS xs)).length w := by
  intro l J Jx W hW hJ _ hY h0
  have hs : Stir (fun _ => False) w W := Stir.of_below hW _
  exact gaps_in B Bl n hn l A c xs hxs J Jx W hJ hY (by have := hW.size; omega) (by rw [ownAt_below hW hB]; exact hfree) (hs.cell hbl (fun e => e)) (Kd.C_below hC hW) hcl h0
theorem gaps_len : ∀ (l : List S31) (a : Int), (gapsF a l).length ≤ l.length + 1
  | [], a => by unfold gapsF; split <;> simp
  | s :: r, a => by
    have := gaps_len r (s.f1 + 1)
    unfold gapsF
    split <;> simp <;> omega
set_option maxRecDepth 100000 in
set_option maxHeartbeats 4000000 in
theorem append_gaps (Bl : Nat) (A : Option Addr) (c : Nat) (xs : List S31) (hxs : xs.length ≤ 1000000000) (w : World)
    (hbl : w.cell? ⟨Bl, 0, none⟩ = some (.slice A xs.length c)) (hC : Kd.C k31 w A xs.length xs) (hcl : xs.length ≤ c) :
    Calls Tryd.prog 56 #[.slice none 0 0, .func (.func 57) #[] #[.pointer (some ⟨Bl, 0, none⟩)]] w fun e w' => ∃ v, e = .returned v ∧ Kd.R k31 31 w' w.heap.size (fun _ => True) v (gapsF 0 (normS xs)) ∧ Below w.heap.size w w' := by
  obtain ⟨i0, hi, hz0, hz1, hz2⟩ := info31_parts
  have hgl := gaps_len (normS xs) 0
  have hnl := normS_len xs
  obtain ⟨w1, hw1⟩ : ∃ w1, w1 = w.alloc (.cells #[.slice none 0 0] 23) := ⟨_, rfl⟩
  have bB : Boxed w1 w.heap.size 23 (.slice none 0 0) := by rw [hw1]; exact Boxed.new w 23 (.slice none 0 0)
  have hb1 : Below w.heap.size w w1 := by rw [hw1]; exact (Below.refl _ w).alloc (Nat.le_refl _) _
  have hsz1 : w1.heap.size = w.heap.size + 1 := by rw [hw1]; simp
  have hfree : ownAt w.heap.size w1 = none := by unfold ownAt; rw [bB.cell]; rfl
  have hseq := gaps_seq w.heap.size Bl 5 (by omega) A c xs hxs w1 (by omega) hfree ((Stir.of_below hb1 (fun _ => False)).cell hbl (fun e => e)) (Kd.C_below hC hb1) hcl
  clear hfree hbl hC
  generalize gapsF 0 (normS xs) = G at *
  refine (callsIn_wide (n := 6)).1 ?_
  have h1 : 1 ≤ 6 := by omega
  refine callsIn_of_wp_marks Tryd.func56 rfl trivial ?_ rfl
  simp only [Tryd.ntmps56, List.size_toArray, List.length_cons, List.length_nil, Nat.reduceAdd, Nat.reduceSub, Array.replicate_succ, Array.replicate_zero, List.push_toArray, List.append_toArray, List.nil_append, List.cons_append]
  have HW1 := Lib.hid hw1
  clear hw1
  gi_wp2_with fail
  rw [← HW1.out]
  obtain ⟨T2, hT2⟩ : ∃ T2 : Nat → Prop, T2 = (fun k => w.heap.size ≤ k) := ⟨_, rfl⟩
  have hB1 : w.heap.size < w1.heap.size := by omega
  refine wpIn_rangeFunc_U rfl h1 (gf := 57) (lb := #[.pointer (some ⟨Bl, 0, none⟩)]) rfl trivial (enters_of Tryd.func57 (by kernel_rfl) rfl)
    hseq below_plain KpB.trans (kpB_b hB1) (Below.refl _ _) (fun _ => rfl)
    (fun pre W => (∃ v, Boxed W w.heap.size 23 v ∧ W.ownsRow (w.heap.size + 1) 31 2 v pre.length (pre.flatMap encSp) ∧ True) ∧ Stir T2 w1 W)
    (fun _ _ _ => False)
    (OwnFrom.and (Own.from (holdsRow_own (w.heap.size + 1) w.heap.size 23 31 2 (fun pre : List S31 => pre.length) (fun pre => pre.flatMap encSp) (fun _ _ => True)) _) (ownFrom_stir w1 (by rw [hT2]; intro k hk; omega)))
    (fun _ => ownFrom_no) ?abides (fun _ _ _ _ h _ => h) ⟨⟨_, bB, World.ownsRow_nil _ _ _ _, trivial⟩, Stir.refl _ _⟩
    (fun x a' W => ∃ b, W.cell? ⟨b, 0, none⟩ = some (.int .i64 x.f0) ∧ W.cell? ⟨b, 1, none⟩ = some (.int .i64 x.f1) ∧ a' = { tmps := #[.slice none 0 0, .func (.func 57) #[] #[.pointer (some ⟨Bl, 0, none⟩)], .pointer (some ⟨w.heap.size, 0, none⟩), undef, .slice none 0 0, .pointer (some ⟨b, 0, none⟩), .func (.func 57) #[] #[.pointer (some ⟨Bl, 0, none⟩)], .agg #[.int .i64 x.f0, .int .i64 x.f1], undef, undef, undef, undef, undef], defers := [] })
    (fun x a' _ X Y row h hg hr => by
      obtain ⟨b, c0, c1, e⟩ := h
      exact ⟨b, cell_kept c0 hg (fun r e => (hr r e).2), cell_kept c1 hg (fun r e => (hr r e).2), e⟩) ?assign ?body ?done ?stop
  case abides =>
    rintro p X Y ⟨⟨v, h1, h2, _⟩, h3⟩ hr
    have hs := Stir.of_below hr (fun _ => False)
    exact ⟨⟨v, boxed_stir h1 hs (fun e => e), hs.owns h2 (fun _ _ e => e), trivial⟩, h3.trans hs (fun _ _ e => e.elim)⟩
  case assign =>
    rintro l pre x W K ⟨⟨v, hv, hrow, _⟩, hS⟩ hK
    have hb : Below W.heap.size W (W.alloc (.cells #[.int .i64 x.f0, .int .i64 x.f1] 31)) := (Below.refl _ W).alloc (Nat.le_refl _) _
    have hs := Stir.of_below hb (fun _ => False)
    have HQ := Lib.hid (hK { tmps := #[.slice none 0 0, .func (.func 57) #[] #[.pointer (some ⟨Bl, 0, none⟩)], .pointer (some ⟨w.heap.size, 0, none⟩), undef, .slice none 0 0, .pointer (some ⟨W.heap.size, 0, none⟩), .func (.func 57) #[] #[.pointer (some ⟨Bl, 0, none⟩)], .agg #[.int .i64 x.f0, .int .i64 x.f1], undef, undef, undef, undef, undef], defers := [] }
      (W.alloc (.cells #[.int .i64 x.f0, .int .i64 x.f1] 31)) ((KeepsOthers.of_below hb).from _) (kpB_below hb (by have := hS.size; omega))
      ⟨⟨v, boxed_stir hv hs (fun e => e), hs.owns hrow (fun _ _ e => e), trivial⟩, hS.trans hs (fun _ _ e => e.elim)⟩
      ⟨W.heap.size, by unfold World.cell?; rw [heap_alloc_new]; rfl, by unfold World.cell?; rw [heap_alloc_new]; rfl, rfl⟩)
    clear hK hv hrow hS hb hs
    gi_wp2
    exact HQ.out
  case body =>
    rintro l pre x a' W ⟨⟨v, hv, hrow, _⟩, hS⟩ ⟨b5, q0, q1, rfl⟩ hlen2
    have hsz := hS.size
    have hc := hv.cell
    have hTB : T2 w.heap.size := by rw [hT2]; omega
    have hTb : ∀ i, w.heap.size + 1 ≤ i → T2 i := by rw [hT2]; intro i hi; omega
    have hba : Below W.heap.size W (W.alloc (.cells #[.int .i64 x.f0, .int .i64 x.f1] 31)) := (Below.refl _ W).alloc (Nat.le_refl _) _
    have hv0 := hv.alloc (.cells #[.int .i64 x.f0, .int .i64 x.f1] 31)
    have hf0 := hv0.frozen
    have hrow0 := hrow.kept (World.grownBy_alloc W (.cells #[.int .i64 x.f0, .int .i64 x.f1] 31) none) (by cases h : v.ownBlock with | none => exact .inl rfl | some _ => exact .inr (by simp))
    have hS0 : Stir T2 W (W.alloc (.cells #[.int .i64 x.f0, .int .i64 x.f1] 31)) := (Stir.refl T2 W).alloc _
    have hK0 : KeepsOthers W (W.alloc (.cells #[.int .i64 x.f0, .int .i64 x.f1] 31)) := KeepsOthers.alloc _ _
    have hx : ∀ j u, ([.int .i64 x.f0, .int .i64 x.f1] : List Value)[j]? = some u → (W.alloc (.cells #[.int .i64 x.f0, .int .i64 x.f1] 31)).cell? ((⟨W.heap.size, 0, none⟩ : Addr).add j) = some u := by
      intro j u hj
      match j, hj with
      | 0, hj => cases hj; show (W.alloc _).cell? ⟨W.heap.size, 0, none⟩ = _; unfold World.cell?; rw [heap_alloc_new]; rfl
      | 1, hj => cases hj; show (W.alloc _).cell? ⟨W.heap.size, 0 + 1, none⟩ = _; unfold World.cell?; rw [heap_alloc_new]; rfl
      | j + 2, hj => simp at hj
    have hpl : pre.length ≤ 2000000000 := by omega
    gi_wp2_with (gi_at_builtin; go_loud (refine wpListIn_append_at (W.alloc (.cells #[.int .i64 x.f0, .int .i64 x.f1] 31)) rfl (.tmp 8) (.tmp 10) 23 rfl (w.heap.size + 1) 31 i0 (.agg #[.int .i64 0, .int .i64 0]) 2 16 Tryd.underlying23 hi hz0 hz1 hz2 rfl (by decide) _ _ _ rfl hrow0 ⟨W.heap.size, 0, none⟩ 1 1 [.int .i64 x.f0, .int .i64 x.f1] rfl rfl hx (by intro u hu; simp at hu; rcases hu with rfl | rfl <;> rfl) (by unfold maxLen; omega) (by omega) (by simp; omega) ?_))
    intro v' w7 hown hgrow hat
    obtain ⟨b1, b2, b3, b4, b5⟩ := Cav.Boxed.app hv (by decide) hrow hK0 hS0 hv0 hrow0 hTB hTb hown hgrow
    have b6 := Boxed.kpB hv (by decide) hba hv0 hrow0 hown hgrow (by simpa using hat)
    obtain ⟨a3, c3, rfl⟩ := owns_slice hown
    have m1 := b1.cell
    have m2 := b1.frozen
    have Hq := Lib.hid (And.intro b2 (And.intro b3 (And.intro b4 (And.intro b5 b6))))
    clear hown hgrow hat hrow b1 b2 b3 b4 b5 b6 hc hv hv0 hrow0 hS0 hK0 hx hf0 hba q0 q1
    gi_wp2
    obtain ⟨b2, b3, b4, b5, b6⟩ := Hq.out
    refine ⟨b4.from _, b6, ⟨⟨_, b2, ?_, trivial⟩, hS.trans b5 (fun _ _ e => e)⟩⟩
    simpa [encSp] using b3
  case done =>
    rintro D ys W W0 hD rfl hWe ⟨⟨v, hv, hrow, _⟩, hS⟩ hK
    have hc := hv.cell
    have hD2 : w.heap.size ≤ D := by omega
    have hRk := hrow.kept (grownBy_putObj' W D (.deferred none)) (by
      cases hv' : v.ownBlock with
      | none => exact .inl rfl
      | some k =>
        refine .inr fun e' => ?_
        obtain rfl : k = D := by simpa using e'
        obtain ⟨cells, hcells⟩ := own_typed hrow k hv'
        rw [hK] at hcells; cases hcells)
    have hBl : Below w.heap.size w (W.putObj D (.deferred none)) := hb1.trans ((hS.trans (stirK_b (T := T2) (w := w1) (by rw [hT2]; intro k hk; omega) W D _ (.deferred none) hD hK rfl rfl) (fun _ _ e => e)).below (by omega) (by rw [hT2]; intro k h; omega))
    have HF := Lib.hid (And.intro (Kd.R_lower (R_cells hRk) (by omega : w.heap.size ≤ w.heap.size + 1)) hBl)
    obtain ⟨a3, c3, rfl⟩ := owns_slice hrow
    clear hv hrow hS hRk hBl hWe
    gi_wp2
    refine ⟨by simp, .inl ⟨_, _, rfl, run_takeDeferred hK, ?_⟩⟩
    exact ⟨_, results_tmp (t := 4) rfl _ _ _, _, rfl, HF.out.1, HF.out.2⟩
  case stop =>
    rintro D c' pre W W0 hD _ h
    exact h.elim
end Go.Proofs.YtnlakdpfkgjdaaaDoor.G

/- spans.Both and spans.Minus in the print's words. Conditions: bounds on the lists' lengths. -/
namespace Go.Proofs.YtnlakdpfkgjdaaaDoor.G
open Go.RowKit Go.Shelf Go.Cav Go.Proofs.YtnlakdpfkgjdaaaDoorW.PrintWords Go.Proofs.YtnlakdpfkgjdaaaDoorW.PrintLast Go.Proofs.YtnlakdpfkgjdaaaDoorW.PrintMore
attribute [local go_sem] Oper.semAt_some
theorem pairs_any (A : Option Addr) (n c : Nat) (A2 : Option Addr) (m c2 : Nat) (w : World) : Calls Tryd.prog 41 #[.slice A n c, .slice A2 m c2] w fun e w' => e = .returned (.func (.func 58) #[] #[.pointer (some ⟨w.heap.size, 0, none⟩), .pointer (some ⟨w.heap.size + 1, 0, none⟩)]) ∧ w' = (w.alloc (.cells #[.slice A n c] 23)).alloc (.cells #[.slice A2 m c2] 23) := by
  go_enter Tryd.func41, Tryd.ntmps41
  go_wp2
  go_ret
  exact ⟨by simp, rfl⟩
theorem gaps_any (A : Option Addr) (n c : Nat) (w : World) : Calls Tryd.prog 40 #[.slice A n c] w fun e w' => e = .returned (.func (.func 57) #[] #[.pointer (some ⟨w.heap.size, 0, none⟩)]) ∧ w' = w.alloc (.cells #[.slice A n c] 23) := by
  go_enter Tryd.func40, Tryd.ntmps40
  go_wp2
  go_ret
  exact ⟨by simp, rfl⟩
theorem pairs_seq (B Ba Bb n : Nat) (hn : 1 ≤ n) (A : Option Addr) (c : Nat) (xs : List S31) (A2 : Option Addr) (c2 : Nat) (ys : List S31) (hxs : xs.length ≤ 1000000000) (hys : ys.length ≤ 1000000000) (w : World)
    (hB : B < w.heap.size) (hfree : ownAt B w = none) (hba : w.cell? ⟨Ba, 0, none⟩ = some (.slice A xs.length c)) (hC : Kd.C k31 w A xs.length xs) (hcl : xs.length ≤ c)
    (hbb : w.cell? ⟨Bb, 0, none⟩ = some (.slice A2 ys.length c2)) (hC2 : Kd.C k31 w A2 ys.length ys) (hcl2 : ys.length ≤ c2) :
    SeqT Fence.wide n Tryd.prog 58 #[.pointer (some ⟨Ba, 0, none⟩), .pointer (some ⟨Bb, 0, none⟩)] encP (KpB B) (fun X Y => Below X.heap.size X Y)
      (fun zs _ => zs = pairsS ((normS xs).length + (normS ys).length) (normS xs) (normS ys)) (fun pre _ => pre <+: pairsS ((normS xs).length + (normS ys).length) (normS xs) (normS ys)) (pairsS ((normS xs).length + (normS ys).length) (normS xs) (normS ys)).length w := by
  intro l J Jx W hW hJ _ hY h0
  have hs : Stir (fun _ => False) w W := Stir.of_below hW _
  exact pairs_in B Ba Bb n hn l A c xs A2 c2 ys hxs hys J Jx W hJ hY (by have := hW.size; omega) (by rw [ownAt_below hW hB]; exact hfree) (hs.cell hba (fun e => e)) (Kd.C_below hC hW) hcl (hs.cell hbb (fun e => e)) (Kd.C_below hC2 hW) hcl2 h0
theorem pairs_len : ∀ (k : Nat) (x y : List S31), (pairsS k x y).length ≤ k
  | 0, x, y => by simp [pairsS]
  | k + 1, [], y => by rw [pairsS_nil]; simp
  | k + 1, s :: x, [] => by rw [pairsS_nil2]; simp
  | k + 1, s :: x, u :: y => by
    have a := pairs_len k x (u :: y)
    have b := pairs_len k (s :: x) y
    rw [pairsS_cons, List.length_append]
    split <;> split <;> simp <;> omega
/-- what both lists say -/
def bothS (x y : List S31) : List S31 := normS ((pairsS ((normS x).length + (normS y).length) (normS x) (normS y)).map meetS)
set_option maxRecDepth 100000 in
set_option maxHeartbeats 4000000 in
theorem both_any (A : Option Addr) (c : Nat) (xs : List S31) (A2 : Option Addr) (c2 : Nat) (ys : List S31) (hxs : xs.length ≤ 400000000) (hys : ys.length ≤ 400000000) (w : World)
    (hC : Kd.C k31 w A xs.length xs) (hcl : xs.length ≤ c) (hC2 : Kd.C k31 w A2 ys.length ys) (hcl2 : ys.length ≤ c2) :
    Calls Tryd.prog 27 #[.slice A xs.length c, .slice A2 ys.length c2] w fun e w' => ∃ v, e = .returned v ∧ Kd.R k31 31 w' w.heap.size (fun _ => True) v (bothS xs ys) ∧ Below w.heap.size w w' := by
  obtain ⟨i0, hi, hz0, hz1, hz2⟩ := info31_parts
  unfold bothS
  have hpl := pairs_len ((normS xs).length + (normS ys).length) (normS xs) (normS ys)
  have hnl := normS_len xs
  have hnl2 := normS_len ys
  obtain ⟨w0, hw0⟩ : ∃ w0, w0 = w.alloc (.cells #[.slice none 0 0] 23) := ⟨_, rfl⟩
  obtain ⟨w1, hw1⟩ : ∃ w1, w1 = (w0.alloc (.cells #[.slice A xs.length c] 23)).alloc (.cells #[.slice A2 ys.length c2] 23) := ⟨_, rfl⟩
  have hsz0 : w0.heap.size = w.heap.size + 1 := by rw [hw0]; simp
  have hsz1 : w1.heap.size = w.heap.size + 3 := by rw [hw1]; simp; omega
  have bB0 : Boxed w0 w.heap.size 23 (.slice none 0 0) := by rw [hw0]; exact Boxed.new w 23 (.slice none 0 0)
  have bB : Boxed w1 w.heap.size 23 (.slice none 0 0) := by rw [hw1]; exact (bB0.alloc _).alloc _
  have hb0 : Below w.heap.size w w0 := by rw [hw0]; exact (Below.refl _ w).alloc (Nat.le_refl _) _
  have hb1 : Below w.heap.size w w1 := by rw [hw1]; exact (hb0.alloc (by omega) _).alloc (by simp; omega) _
  have bA1 : Boxed w1 w0.heap.size 23 (.slice A xs.length c) := by rw [hw1]; exact (Boxed.new w0 23 (.slice A xs.length c)).alloc _
  have bA2 : Boxed w1 (w0.heap.size + 1) 23 (.slice A2 ys.length c2) := by
    rw [hw1]
    have := Boxed.new (w0.alloc (.cells #[.slice A xs.length c] 23)) 23 (.slice A2 ys.length c2)
    rw [World.size_alloc] at this; exact this
  have hfree : ownAt w.heap.size w1 = none := by unfold ownAt; rw [bB.cell]; rfl
  have hseq := pairs_seq w.heap.size w0.heap.size (w0.heap.size + 1) 5 (by omega) A c xs A2 c2 ys (by omega) (by omega) w1 (by omega) hfree bA1.cell (Kd.C_below hC hb1) hcl bA2.cell (Kd.C_below hC2 hb1) hcl2
  clear hfree hC hC2 bA1 bA2 bB0
  generalize pairsS ((normS xs).length + (normS ys).length) (normS xs) (normS ys) = G at *
  have hcall := pairs_any A xs.length c A2 ys.length c2 w0
  rw [← hw1] at hcall
  refine (callsIn_wide (n := 6)).1 ?_
  have h1 : 1 ≤ 6 := by omega
  refine callsIn_of_wp_marks Tryd.func27 rfl trivial ?_ rfl
  simp only [Tryd.ntmps27, List.size_toArray, List.length_cons, List.length_nil, Nat.reduceAdd, Nat.reduceSub, Array.replicate_succ, Array.replicate_zero, List.push_toArray, List.append_toArray, List.nil_append, List.cons_append]
  have HW0 := Lib.hid hw0
  have HS0 := Lib.hid hsz0
  have HS1 := Lib.hid hsz1
  clear hw0 hw1 hsz0 hsz1
  gi_wp2_with fail
  rw [← HW0.out]
  refine ⟨trivial, (callsIn_wide.2 hcall).mono ?_⟩
  rintro e w1' ⟨rfl, rfl⟩
  gi_wp2_with fail
  obtain ⟨T2, hT2⟩ : ∃ T2 : Nat → Prop, T2 = (fun k => w.heap.size ≤ k) := ⟨_, rfl⟩
  have hB1 : w.heap.size < w1'.heap.size := by rw [HS1.out]; omega
  refine wpIn_rangeFunc_U rfl h1 (gf := 58) (lb := #[.pointer (some ⟨w0.heap.size, 0, none⟩), .pointer (some ⟨w0.heap.size + 1, 0, none⟩)]) rfl trivial (enters_of Tryd.func58 (by kernel_rfl) rfl)
    hseq below_plain KpB.trans (kpB_b hB1) (Below.refl _ _) (fun _ => rfl)
    (fun pre W => (∃ v, Boxed W w.heap.size 23 v ∧ W.ownsRow (w.heap.size + 1) 31 2 v pre.length ((pre.map meetS).flatMap encSp) ∧ True) ∧ Stir T2 w1' W)
    (fun _ _ _ => False)
    (OwnFrom.and (Own.from (holdsRow_own (w.heap.size + 1) w.heap.size 23 31 2 (fun pre : List (S31 × S31) => pre.length) (fun pre => (pre.map meetS).flatMap encSp) (fun _ _ => True)) _) (ownFrom_stir w1' (by rw [hT2]; intro k hk; omega)))
    (fun _ => ownFrom_no) ?abides (fun _ _ _ _ h _ => h) ⟨⟨_, bB, World.ownsRow_nil _ _ _ _, trivial⟩, Stir.refl _ _⟩
    (fun x a' W => ∃ b b', W.cell? ⟨b, 0, none⟩ = some (.int .i64 x.1.f0) ∧ W.cell? ⟨b, 1, none⟩ = some (.int .i64 x.1.f1) ∧ W.cell? ⟨b', 0, none⟩ = some (.int .i64 x.2.f0) ∧ W.cell? ⟨b', 1, none⟩ = some (.int .i64 x.2.f1) ∧ a' = { tmps := #[.slice A xs.length c, .slice A2 ys.length c2, undef, undef, .slice none 0 0, .pointer (some ⟨w.heap.size, 0, none⟩), .pointer (some ⟨b, 0, none⟩), .pointer (some ⟨b', 0, none⟩), .slice A xs.length c, .slice A2 ys.length c2, .func (.func 58) #[] #[.pointer (some ⟨w0.heap.size, 0, none⟩), .pointer (some ⟨w0.heap.size + 1, 0, none⟩)], .agg #[.int .i64 x.1.f0, .int .i64 x.1.f1], .agg #[.int .i64 x.2.f0, .int .i64 x.2.f1], undef, undef, undef, undef, undef, undef, undef, undef, undef, undef, undef, undef, undef, undef, undef, undef], defers := [] })
    (fun x a' _ X Y row h hg hr => by
      obtain ⟨b, b', c0, c1, c3, c4, e⟩ := h
      exact ⟨b, b', cell_kept c0 hg (fun r e => (hr r e).2), cell_kept c1 hg (fun r e => (hr r e).2), cell_kept c3 hg (fun r e => (hr r e).2), cell_kept c4 hg (fun r e => (hr r e).2), e⟩) ?assign ?body ?done ?stop
  case abides =>
    rintro p X Y ⟨⟨v, h1, h2, _⟩, h3⟩ hr
    have hs := Stir.of_below hr (fun _ => False)
    exact ⟨⟨v, boxed_stir h1 hs (fun e => e), hs.owns h2 (fun _ _ e => e), trivial⟩, h3.trans hs (fun _ _ e => e.elim)⟩
  case assign =>
    rintro l pre x W K ⟨⟨v, hv, hrow, _⟩, hS⟩ hK
    have hb : Below W.heap.size W ((W.alloc (.cells #[.int .i64 x.1.f0, .int .i64 x.1.f1] 31)).alloc (.cells #[.int .i64 x.2.f0, .int .i64 x.2.f1] 31)) := ((Below.refl _ W).alloc (Nat.le_refl _) _).alloc (by simp) _
    have hs := Stir.of_below hb (fun _ => False)
    have q0 : (W.alloc (.cells #[.int .i64 x.1.f0, .int .i64 x.1.f1] 31)).cell? ⟨W.heap.size, 0, none⟩ = some (.int .i64 x.1.f0) := by unfold World.cell?; rw [heap_alloc_new]; rfl
    have q1 : (W.alloc (.cells #[.int .i64 x.1.f0, .int .i64 x.1.f1] 31)).cell? ⟨W.heap.size, 1, none⟩ = some (.int .i64 x.1.f1) := by unfold World.cell?; rw [heap_alloc_new]; rfl
    have hs2 : Stir (fun _ => False) (W.alloc (.cells #[.int .i64 x.1.f0, .int .i64 x.1.f1] 31)) ((W.alloc (.cells #[.int .i64 x.1.f0, .int .i64 x.1.f1] 31)).alloc (.cells #[.int .i64 x.2.f0, .int .i64 x.2.f1] 31)) := (Stir.refl _ _).alloc _
    have q2 : ((W.alloc (.cells #[.int .i64 x.1.f0, .int .i64 x.1.f1] 31)).alloc (.cells #[.int .i64 x.2.f0, .int .i64 x.2.f1] 31)).cell? ⟨W.heap.size + 1, 0, none⟩ = some (.int .i64 x.2.f0) := by
      have := heap_alloc_new (W.alloc (.cells #[.int .i64 x.1.f0, .int .i64 x.1.f1] 31)) (.cells #[.int .i64 x.2.f0, .int .i64 x.2.f1] 31)
      rw [World.size_alloc] at this
      unfold World.cell?; rw [this]; rfl
    have q3 : ((W.alloc (.cells #[.int .i64 x.1.f0, .int .i64 x.1.f1] 31)).alloc (.cells #[.int .i64 x.2.f0, .int .i64 x.2.f1] 31)).cell? ⟨W.heap.size + 1, 1, none⟩ = some (.int .i64 x.2.f1) := by
      have := heap_alloc_new (W.alloc (.cells #[.int .i64 x.1.f0, .int .i64 x.1.f1] 31)) (.cells #[.int .i64 x.2.f0, .int .i64 x.2.f1] 31)
      rw [World.size_alloc] at this
      unfold World.cell?; rw [this]; rfl
    have HQ := Lib.hid (hK { tmps := #[.slice A xs.length c, .slice A2 ys.length c2, undef, undef, .slice none 0 0, .pointer (some ⟨w.heap.size, 0, none⟩), .pointer (some ⟨W.heap.size, 0, none⟩), .pointer (some ⟨W.heap.size + 1, 0, none⟩), .slice A xs.length c, .slice A2 ys.length c2, .func (.func 58) #[] #[.pointer (some ⟨w0.heap.size, 0, none⟩), .pointer (some ⟨w0.heap.size + 1, 0, none⟩)], .agg #[.int .i64 x.1.f0, .int .i64 x.1.f1], .agg #[.int .i64 x.2.f0, .int .i64 x.2.f1], undef, undef, undef, undef, undef, undef, undef, undef, undef, undef, undef, undef, undef, undef, undef, undef], defers := [] }
      ((W.alloc (.cells #[.int .i64 x.1.f0, .int .i64 x.1.f1] 31)).alloc (.cells #[.int .i64 x.2.f0, .int .i64 x.2.f1] 31)) ((KeepsOthers.of_below hb).from _) (kpB_below hb (by have := hS.size; omega))
      ⟨⟨v, boxed_stir hv hs (fun e => e), hs.owns hrow (fun _ _ e => e), trivial⟩, hS.trans hs (fun _ _ e => e.elim)⟩
      ⟨W.heap.size, W.heap.size + 1, hs2.cell q0 (fun e => e), hs2.cell q1 (fun e => e), q2, q3, rfl⟩)
    clear hK hv hrow hS hb hs q0 q1 q2 q3 hs2
    gi_wp2
    exact HQ.out
  case body =>
    rintro l pre x a' W ⟨⟨v, hv, hrow, _⟩, hS⟩ ⟨b5, b6, q0, q1, q2, q3, rfl⟩ hlen2
    have hsz := hS.size
    have hc := hv.cell
    have hTB : T2 w.heap.size := by rw [hT2]; omega
    have hTb : ∀ i, w.heap.size + 1 ≤ i → T2 i := by rw [hT2]; intro i hi; omega
    have hba : Below W.heap.size W (W.alloc (.cells #[.int .i64 (max x.1.f0 x.2.f0), .int .i64 (min x.1.f1 x.2.f1)] 31)) := (Below.refl _ W).alloc (Nat.le_refl _) _
    have hv0 := hv.alloc (.cells #[.int .i64 (max x.1.f0 x.2.f0), .int .i64 (min x.1.f1 x.2.f1)] 31)
    have hf0 := hv0.frozen
    have hrow0 := hrow.kept (World.grownBy_alloc W (.cells #[.int .i64 (max x.1.f0 x.2.f0), .int .i64 (min x.1.f1 x.2.f1)] 31) none) (by cases h : v.ownBlock with | none => exact .inl rfl | some _ => exact .inr (by simp))
    have hS0 : Stir T2 W (W.alloc (.cells #[.int .i64 (max x.1.f0 x.2.f0), .int .i64 (min x.1.f1 x.2.f1)] 31)) := (Stir.refl T2 W).alloc _
    have hK0 : KeepsOthers W (W.alloc (.cells #[.int .i64 (max x.1.f0 x.2.f0), .int .i64 (min x.1.f1 x.2.f1)] 31)) := KeepsOthers.alloc _ _
    have hx : ∀ j u, ([.int .i64 (max x.1.f0 x.2.f0), .int .i64 (min x.1.f1 x.2.f1)] : List Value)[j]? = some u → (W.alloc (.cells #[.int .i64 (max x.1.f0 x.2.f0), .int .i64 (min x.1.f1 x.2.f1)] 31)).cell? ((⟨W.heap.size, 0, none⟩ : Addr).add j) = some u := by
      intro j u hj
      match j, hj with
      | 0, hj => cases hj; show (W.alloc _).cell? ⟨W.heap.size, 0, none⟩ = _; unfold World.cell?; rw [heap_alloc_new]; rfl
      | 1, hj => cases hj; show (W.alloc _).cell? ⟨W.heap.size, 0 + 1, none⟩ = _; unfold World.cell?; rw [heap_alloc_new]; rfl
      | j + 2, hj => simp at hj
    have hpl2 : pre.length ≤ 2000000000 := by omega
    have hszx : w.heap.size + 1 ≤ W.heap.size := by omega
    gi_wp2_with (gi_at_builtin; go_loud (refine wpListIn_append_at (W.alloc (.cells #[.int .i64 (max x.1.f0 x.2.f0), .int .i64 (min x.1.f1 x.2.f1)] 31)) rfl (.tmp 13) (.tmp 25) 23 rfl (w.heap.size + 1) 31 i0 (.agg #[.int .i64 0, .int .i64 0]) 2 16 Tryd.underlying23 hi hz0 hz1 hz2 rfl (by decide) _ _ _ rfl hrow0 ⟨W.heap.size, 0, none⟩ 1 1 [.int .i64 (max x.1.f0 x.2.f0), .int .i64 (min x.1.f1 x.2.f1)] rfl rfl hx (by intro u hu; simp at hu; rcases hu with rfl | rfl <;> rfl) (by unfold maxLen; omega) (by omega) (by simp; omega) ?_))
    intro v' w7 hown hgrow hat
    obtain ⟨b1, b2, b3, b4, b5'⟩ := Cav.Boxed.app hv (by decide) hrow hK0 hS0 hv0 hrow0 hTB hTb hown hgrow
    have b7 := Boxed.kpB hv (by decide) hba hv0 hrow0 hown hgrow (by simpa using hat)
    obtain ⟨a3, c3, rfl⟩ := owns_slice hown
    have m1 := b1.cell
    have m2 := b1.frozen
    have Hq := Lib.hid (And.intro b2 (And.intro b3 (And.intro b4 (And.intro b5' b7))))
    clear hown hgrow hat hrow b1 b2 b3 b4 b5' b7 hc hv hv0 hrow0 hS0 hK0 hx hf0 hba q0 q1 q2 q3
    gi_wp2
    obtain ⟨b2, b3, b4, b5', b7⟩ := Hq.out
    refine ⟨b4.from _, b7, ⟨⟨_, b2, ?_, trivial⟩, hS.trans b5' (fun _ _ e => e)⟩⟩
    simpa [encSp, meetS] using b3
  case done =>
    rintro D zs W W0 hD rfl hWe ⟨⟨v, hv, hrow, _⟩, hS⟩ hK
    have hc := hv.cell
    have hD2 : w.heap.size ≤ D := by omega
    have hrow' : W.ownsRow (w.heap.size + 1) 31 2 v (zs.map meetS).length ((zs.map meetS).flatMap encSp) := by rw [List.length_map]; exact hrow
    have hR := R_cells hrow'
    have hWb : Below w.heap.size w W := hb1.trans (hS.below (by omega) (by rw [hT2]; intro k h; exact h))
    obtain ⟨a3, c3, rfl⟩ := owns_slice hrow'
    have hrd := Kd.R_reads' hR
    have hN := norm_any a3 c3 (zs.map meetS) W hrd.2.2 hrd.2.1 (by rw [List.length_map]; omega)
    rw [List.length_map] at hN
    have hl3 : D < W.heap.size := lt_of_heap hK
    have HFIN : Hid (∀ w4, Below W.heap.size W w4 → w4.heap[D]? = some (.deferred (some [])) ∧ Below w.heap.size w (w4.putObj D (.deferred none))) := Lib.hid fun w4 hb => by
      have hK4 : w4.heap[D]? = some (.deferred (some [])) := (hb.block D hl3).trans hK
      exact ⟨hK4, hb1.trans (((hS.trans (Stir.of_below hb (fun _ => False)) (fun _ _ e => e.elim)).trans (stirK_b (T := T2) (w := w1') (by rw [hT2]; intro k hk; omega) w4 D _ (.deferred none) hD hK4 rfl rfl) (fun _ _ e => e)).below (by omega) (by rw [hT2]; intro k h; omega))⟩
    have hsW : w.heap.size ≤ W.heap.size := by omega
    clear hv hrow hrow' hS hR hrd hWe hK hWb
    gi_wp2_with fail
    refine And.intro trivial ?_
    with_reducible refine (callsIn_wide.2 hN).mono ?_
    rintro e w4 ⟨v4, rfl, hR4, hB4⟩
    obtain ⟨hK4, hB5⟩ := HFIN.out _ hB4
    have hR5 : Kd.R k31 31 (w4.putObj D (.deferred none)) w.heap.size (fun _ => True) v4 (normS (zs.map meetS)) := by
      refine Kd.R_lower (Kd.R_grown1 hR4 rfl (grownBy_putObj' w4 D (.deferred none)) fun e' => ?_) hsW
      obtain ⟨_, inner, ho, _⟩ := hR4
      have := (ho.lt D e'.symm).1
      omega
    have HF := Lib.hid (And.intro hR5 hB5)
    have HK := Lib.hid hK4
    clear hN hR4 hB4 hR5 hB5 hK4 HFIN hc
    gi_wp2
    refine ⟨by simp, .inl ⟨_, _, rfl, run_takeDeferred HK.out, ?_⟩⟩
    exact ⟨_, results_tmp (t := 4) rfl _ _ _, _, rfl, HF.out.1, HF.out.2⟩
  case stop =>
    rintro D c' pre W W0 hD _ h
    exact h.elim
/-- what the first list says, and the second does not -/
def minusS (x y : List S31) : List S31 := bothS x (gapsF 0 (normS y))
set_option maxRecDepth 100000 in
set_option maxHeartbeats 4000000 in
theorem collect_gaps (Bl : Nat) (A : Option Addr) (c : Nat) (xs : List S31) (hxs : xs.length ≤ 1000000000) (w : World)
    (hbl : w.cell? ⟨Bl, 0, none⟩ = some (.slice A xs.length c)) (hC : Kd.C k31 w A xs.length xs) (hcl : xs.length ≤ c) :
    Calls Tryd.prog 39 #[.func (.func 57) #[] #[.pointer (some ⟨Bl, 0, none⟩)]] w fun e w' => ∃ v, e = .returned v ∧ Kd.R k31 31 w' w.heap.size (fun _ => True) v (gapsF 0 (normS xs)) ∧ Below w.heap.size w w' := by
  have h := append_gaps Bl A c xs hxs w hbl hC hcl
  clear hbl hC
  go_enter Tryd.func39, Tryd.ntmps39
  go_wp2_with fail
  refine h.mono ?_
  rintro e w1 ⟨v, rfl, hR, hB⟩
  have HR := Lib.hid hR
  have HB := Lib.hid hB
  clear h hR hB
  go_wp2
  go_ret
  exact ⟨_, rfl, HR.out, HB.out⟩
set_option maxRecDepth 100000 in
set_option maxHeartbeats 4000000 in
theorem minus_any (A : Option Addr) (c : Nat) (xs : List S31) (A2 : Option Addr) (c2 : Nat) (ys : List S31) (hxs : xs.length ≤ 300000000) (hys : ys.length ≤ 300000000) (w : World)
    (hC : Kd.C k31 w A xs.length xs) (hcl : xs.length ≤ c) (hC2 : Kd.C k31 w A2 ys.length ys) (hcl2 : ys.length ≤ c2) :
    Calls Tryd.prog 26 #[.slice A xs.length c, .slice A2 ys.length c2] w fun e w' => ∃ v, e = .returned v ∧ Kd.R k31 31 w' w.heap.size (fun _ => True) v (minusS xs ys) ∧ Below w.heap.size w w' := by
  have hgl := gaps_len (normS ys) 0
  have hnl := normS_len ys
  have h1 := gaps_any A2 ys.length c2 w
  have hb1 : Below w.heap.size w (w.alloc (.cells #[.slice A2 ys.length c2] 23)) := (Below.refl _ w).alloc (Nat.le_refl _) _
  have h2 := collect_gaps w.heap.size A2 c2 ys (by omega) (w.alloc (.cells #[.slice A2 ys.length c2] 23)) (Boxed.new w 23 (.slice A2 ys.length c2)).cell (Kd.C_below hC2 hb1) hcl2
  have hCx := Kd.C_below hC hb1
  generalize hw1 : w.alloc (.cells #[.slice A2 ys.length c2] 23) = w1 at h1 h2 hb1 hCx
  clear hC hC2 hw1
  go_enter Tryd.func26, Tryd.ntmps26
  go_wp2_with fail
  refine h1.mono ?_
  rintro e w1' ⟨rfl, rfl⟩
  go_wp2_with fail
  refine h2.mono ?_
  rintro e w2 ⟨v2, rfl, hR2, hB2⟩
  obtain ⟨A3, c3, rfl⟩ := Kd.R_slice hR2
  have hrd := Kd.R_reads' hR2
  have h3 := both_any A c xs A3 c3 (gapsF 0 (normS ys)) (by omega) (by omega) w2 (Kd.C_below hCx hB2) hcl hrd.2.2 hrd.2.1
  have HB2 := Lib.hid (hb1.trans (hB2.mono hb1.size))
  clear h1 h2 hb1 hCx hR2 hB2 hrd
  go_wp2_with fail
  refine h3.mono ?_
  rintro e w3 ⟨v3, rfl, hR3, hB3⟩
  have HR := Lib.hid (Kd.R_lower hR3 HB2.out.size)
  have HB := Lib.hid (HB2.out.trans (hB3.mono HB2.out.size))
  clear h3 hR3 hB3 HB2
  go_wp2
  go_ret
  exact ⟨_, rfl, HR.out, HB.out⟩
def spans_Both.f (l0 : List S31) (l1 : List S31) : Option (List S31) := if l0.length ≤ 300000000 ∧ l1.length ≤ 300000000 then some (bothS l0 l1) else none
def spans_Minus.f (l0 : List S31) (l1 : List S31) : Option (List S31) := if l0.length ≤ 300000000 ∧ l1.length ≤ 300000000 then some (minusS l0 l1) else none
theorem spans_Both.calls (A0 : Option Addr) (c0 : Nat) (l0 : List S31) (A1 : Option Addr) (c1 : Nat) (l1 : List S31) (r : List S31) (w : World) (hr0 : Kd.C k31 w A0 l0.length l0) (hc0 : l0.length ≤ c0) (hr1 : Kd.C k31 w A1 l1.length l1) (hc1 : l1.length ≤ c1) (h : spans_Both.f l0 l1 = some r) :
    Calls Tryd.prog 27 #[.slice A0 l0.length c0, .slice A1 l1.length c1] w fun e w' => ∃ v0_ : Value, e = .returned (v0_) ∧ Kd.R k31 31 w' w.heap.size (fun _ => True) v0_ r ∧ Below w.heap.size w w' := by
  unfold spans_Both.f at h
  split at h
  · cases h; exact both_any A0 c0 l0 A1 c1 l1 (by omega) (by omega) w hr0 hc0 hr1 hc1
  · cases h
theorem spans_Minus.calls (A0 : Option Addr) (c0 : Nat) (l0 : List S31) (A1 : Option Addr) (c1 : Nat) (l1 : List S31) (r : List S31) (w : World) (hr0 : Kd.C k31 w A0 l0.length l0) (hc0 : l0.length ≤ c0) (hr1 : Kd.C k31 w A1 l1.length l1) (hc1 : l1.length ≤ c1) (h : spans_Minus.f l0 l1 = some r) :
    Calls Tryd.prog 26 #[.slice A0 l0.length c0, .slice A1 l1.length c1] w fun e w' => ∃ v0_ : Value, e = .returned (v0_) ∧ Kd.R k31 31 w' w.heap.size (fun _ => True) v0_ r ∧ Below w.heap.size w w' := by
  unfold spans_Minus.f at h
  split at h
  · rename_i hb; cases h; exact minus_any A0 c0 l0 A1 c1 l1 hb.1 hb.2 w hr0 hc0 hr1 hc1
  · cases h
end Go.Proofs.YtnlakdpfkgjdaaaDoor.G

/- spans.Union in the print's words. Condition: a bound on the lists' lengths. -/
namespace Go.Proofs.YtnlakdpfkgjdaaaDoor.G
open Go.RowKit Go.Cav Go.Proofs.YtnlakdpfkgjdaaaDoorW.PrintWords Go.Proofs.YtnlakdpfkgjdaaaDoorW.PrintLast Go.Proofs.YtnlakdpfkgjdaaaDoorW.PrintMore
attribute [local go_sem] Oper.semAt_some
set_option maxRecDepth 100000 in
set_option maxHeartbeats 4000000 in
theorem union_any (A0 : Option Addr) (c0 : Nat) (l0 : List S31) (A1 : Option Addr) (c1 : Nat) (l1 : List S31) (w : World) (hr0 : Kd.C k31 w A0 l0.length l0) (hr1 : Kd.C k31 w A1 l1.length l1) (h0 : l0.length ≤ 400000000) (h1 : l1.length ≤ 400000000) :
    Calls Tryd.prog 24 #[.slice A0 l0.length c0, .slice A1 l1.length c1] w fun e w' => ∃ v0_ : Value, e = .returned (v0_) ∧ Kd.R k31 31 w' w.heap.size (fun _ => True) v0_ (normS (l0 ++ l1)) ∧ Below w.heap.size w w' := by
  have hb : Below w.heap.size w (w.alloc (.cells #[.slice A0 l0.length c0, .slice A1 l1.length c1] 23)) := (Below.refl w.heap.size w).alloc (Nat.le_refl _) _
  have hk := heap_alloc_new w (.cells #[.slice A0 l0.length c0, .slice A1 l1.length c1] 23)
  have hC := concat_calls w.heap.size A0 c0 l0 A1 c1 l1 (w.alloc (.cells #[.slice A0 l0.length c0, .slice A1 l1.length c1] 23)) ((cell_of_row _ _ 0 _ _ _ hk).trans rfl) ((cell_of_row _ _ 1 _ _ _ hk).trans rfl) (Kd.C_below hr0 hb) (Kd.C_below hr1 hb) (by omega) (by omega)
  have HB := Lib.hid hb
  clear hb hk hr0 hr1
  go_enter Tryd.func24, Tryd.ntmps24
  go_wp2_with fail
  refine hC.mono ?_
  rintro e w1 ⟨v1, rfl, hR, hB1⟩
  obtain ⟨A2, c2, rfl⟩ := Kd.R_slice hR
  have hrd := Kd.R_reads' hR
  have hN := norm_any A2 c2 (l0 ++ l1) w1 hrd.2.2 hrd.2.1 (by simp; omega)
  have HB1 := Lib.hid (HB.out.trans (hB1.mono HB.out.size))
  clear hC hR hrd hB1 HB
  generalize (l0 ++ l1).length = m at hN ⊢
  go_wp2_with fail
  refine hN.mono ?_
  rintro e w2 ⟨v2, rfl, hR, hB2⟩
  have HR := Lib.hid (Kd.R_lower hR HB1.out.size)
  have HB2 := Lib.hid (HB1.out.trans (hB2.mono HB1.out.size))
  clear hN hR hB2 HB1
  go_wp2
  go_ret
  exact ⟨_, rfl, HR.out, HB2.out⟩
def spans_Union.f (l0 : List S31) (l1 : List S31) : Option (List S31) := if l0.length ≤ 400000000 ∧ l1.length ≤ 400000000 then some (normS (l0 ++ l1)) else none
theorem spans_Union.calls (A0 : Option Addr) (c0 : Nat) (l0 : List S31) (A1 : Option Addr) (c1 : Nat) (l1 : List S31) (r : List S31) (w : World) (hr0 : Kd.C k31 w A0 l0.length l0) (_hc0 : l0.length ≤ c0) (hr1 : Kd.C k31 w A1 l1.length l1) (_hc1 : l1.length ≤ c1) (h : spans_Union.f l0 l1 = some r) :
    Calls Tryd.prog 24 #[.slice A0 l0.length c0, .slice A1 l1.length c1] w fun e w' => ∃ v0_ : Value, e = .returned (v0_) ∧ Kd.R k31 31 w' w.heap.size (fun _ => True) v0_ r ∧ Below w.heap.size w w' := by
  unfold spans_Union.f at h
  split at h
  case isFalse => cases h
  case isTrue hb =>
    obtain rfl := Option.some.inj h
    exact union_any A0 c0 l0 A1 c1 l1 w hr0 hr1 hb.1 hb.2
end Go.Proofs.YtnlakdpfkgjdaaaDoor.G

/- What functions of the translation come to, and their calls' proofs; by a program of mine over the kit's print, with contracts given by hand beside. Conditions: where a plain function tells none, nothing is said. -/
namespace Go.Proofs.YtnlakdpfkgjdaaaDoor.G
open Go.RowKit Go.Proofs.YtnlakdpfkgjdaaaDoorW.PrintWords Go.Proofs.YtnlakdpfkgjdaaaDoorW.PrintLast Go.Proofs.YtnlakdpfkgjdaaaDoorW.PrintMore
attribute [local go_sem] max2_int min2_int max_two min_two max_three min_three max_four min_four   -- for this text's walks alone
set_option linter.unusedVariables false
set_option linter.unusedSimpArgs false

/-! ### caravanlaw2_Make: function 28 -/
def caravanlaw2_Make.l0 : Nat → List Int → List (S31) → Int → Option ((List (S31)))
 | 0, _, _, _ => none
 | k + 1, x0, x3, x4 => if (wrap64 (x4 + 1)) < (x0.length : Int) then (if 0 ≤ x4 then (if x4 < (x0.length : Int) then (if 0 ≤ (wrap64 (x4 + 1)) then (if x3.length < 8796093022208 then (caravanlaw2_Make.l0 k x0 (x3 ++ [(⟨Int.tmod (wrap64 (rd x0 x4)) 16384, mn 16383 (wrap64 ((Int.tmod (wrap64 (rd x0 x4)) 16384) + (Int.tmod (wrap64 (rd x0 (wrap64 (x4 + 1)))) 300)))⟩ : S31)]) (wrap64 (x4 + 2))) else (none)) else (none)) else (none)) else (none)) else (some x3)
def caravanlaw2_Make.f (k : Nat) (l0 : List Int) : Option ((List (S31))) := caravanlaw2_Make.l0 k l0 ([] : List (S31)) 0
theorem caravanlaw2_Make.mono_l : ∀ k, (∀ y0 y1 y2, LeO (caravanlaw2_Make.l0 k y0 y1 y2) (caravanlaw2_Make.l0 (k + 1) y0 y1 y2))
 | 0 => fun _ _ _ r h => by simp [caravanlaw2_Make.l0] at h
 | k + 1 => by
  have ih0 := caravanlaw2_Make.mono_l k
  ·intro y0 y1 y2
   unfold caravanlaw2_Make.l0
   repeat' first
   | (with_reducible exact ih0 _ _ _)
   | (with_reducible exact LeO.refl _)
   | (with_reducible exact LeO.none _)
   | (with_reducible refine LeO.ite ?_ ?_)
   | (with_reducible refine LeO.bind ?_ (fun _ => ?_))
   | exact ih0 _ _ _
   | exact LeO.none _
   | refine LeO.ite ?_ ?_
   | refine LeO.bind ?_ (fun _ => ?_)
theorem caravanlaw2_Make.mono : ∀ a0 k, LeO (caravanlaw2_Make.f k a0) (caravanlaw2_Make.f (k + 1) a0) := by
 intro a0 k
 have ih0 := caravanlaw2_Make.mono_l k
 unfold caravanlaw2_Make.f
 repeat' first
  | (with_reducible exact ih0 _ _ _)
  | (with_reducible exact LeO.refl _)
  | (with_reducible exact LeO.none _)
  | (with_reducible refine LeO.ite ?_ ?_)
  | (with_reducible refine LeO.bind ?_ (fun _ => ?_))
  | exact ih0 _ _ _
  | exact LeO.none _
  | refine LeO.ite ?_ ?_
  | refine LeO.bind ?_ (fun _ => ?_)
set_option maxHeartbeats 8000000 in
set_option maxRecDepth 100000 in
theorem caravanlaw2_Make.calls (k : Nat) (A0 : Option Addr) (c0 : Nat) (l0 : List Int) (r : List (S31)) (w : World) (hr0 : Kd.C (Kd.int .u16) w A0 l0.length l0) (hc0 : l0.length ≤ c0) (h : caravanlaw2_Make.f k l0 = some r) :
 Calls Tryd.prog 28 #[.slice A0 l0.length c0] w fun e w' => ∃ v0_ : Value, e = .returned (v0_) ∧ Kd.R k31 31 w' w.heap.size (fun _ => True) v0_ r ∧ Below w.heap.size w w' := by
 have hu31 := Tryd.underlying31
 have HR0 := Aside0.mk hr0
 have HC0 := Aside0.mk hc0
 clear hr0 hc0
 have HB := Aside0.mk (Below.refl w.heap.size w)
 have H : (caravanlaw2_Make.l0 k l0 ([] : List (S31)) 0) = some r := h
 clear h
 have H' := Aside0.mk H
 clear H
 go_enter Tryd.func28, Tryd.ntmps28
 go_wp2
 go_loopg [3, 4] k (fun kq v3 v4 w' => ∃ (x3_1 : List (S31)) (x4_1 : Int), v4 = .int .i64 x4_1 ∧ Aside0 (caravanlaw2_Make.l0 kq l0 x3_1 x4_1 = some r) ∧ Aside0 (kq ≤ k) ∧ Aside0 (Kd.R k31 31 w' w.heap.size (fun _ => True) v3 x3_1) ∧ Aside0 (Below w.heap.size w w'))
 case atStart => exact ⟨(([] : List (S31))), (0), (by first | rfl | (simp; done) | (simp [*]; done)), H', ⟨Nat.le_refl _⟩, ⟨by first | exact Kd.R_nil _ _ _ _ _ | exact Kd.N_nil _ _ _ _ _ | exact Kd.V_nil _ _ _ _ _ | exact Kd.Q_nil _ _ _ _ _ | exact Kd.S_nil _ _ _ _ _⟩, ⟨(qdb35_ HB.out)⟩⟩
 case round =>
  clear H'
  obtain ⟨x3_1, x4_1, rfl, HA, HK1, HO_3, HB⟩ := hrel
  cases gk with
  | zero => exact absurd HA.out (by simp [caravanlaw2_Make.l0])
  | succ k1 =>
   have H := HA.out
   clear HA
   simp only [caravanlaw2_Make.l0] at H
   by_cases c2 : (wrap64 (x4_1 + 1)) < (l0.length : Int)
   ·rw [if_pos c2] at H
    have c2b0 : decide ((wrap64 (x4_1 + 1)) < (l0.length : Int)) = true := decide_eq_true c2
    clear c2
    by_cases c3 : 0 ≤ x4_1
    ·rw [if_pos c3] at H
     have c3b0 : decide (0 ≤ x4_1) = true := decide_eq_true c3
     clear c3
     by_cases c4 : x4_1 < (l0.length : Int)
     ·rw [if_pos c4] at H
      have c4b0 : decide (x4_1 < (l0.length : Int)) = true := decide_eq_true c4
      clear c4
      obtain ⟨ji5, hji5⟩ : ∃ j_ : Int, (wrap64 (x4_1 + 1)) = j_ := ⟨_, rfl⟩
      replace H : (if 0 ≤ (ji5) then (if x3_1.length < 8796093022208 then (caravanlaw2_Make.l0 k1 l0 (x3_1 ++ [(⟨Int.tmod (wrap64 (rd l0 x4_1)) 16384, mn 16383 (wrap64 ((Int.tmod (wrap64 (rd l0 x4_1)) 16384) + (Int.tmod (wrap64 (rd l0 (ji5))) 300)))⟩ : S31)]) (wrap64 (x4_1 + 2))) else (none)) else (none)) = some r := by first | (rw [hji5] at H; exact H) | (simp only [hji5] at H ⊢; exact H)
      (try rw [hji5] at c2b0)
      have hji5w : (IntKind.i64.wrap (x4_1 + 1)) = ji5 := (i64_w _).trans hji5
      by_cases c6 : 0 ≤ (ji5)
      ·rw [if_pos c6] at H
       have c6b0 : decide (0 ≤ (ji5)) = true := decide_eq_true c6
       clear c6
       obtain ⟨ji7, hji7⟩ : ∃ j_ : Int, (mn 16383 (wrap64 ((Int.tmod (wrap64 (rd l0 x4_1)) 16384) + (Int.tmod (wrap64 (rd l0 (ji5))) 300)))) = j_ := ⟨_, rfl⟩
       replace H : (if x3_1.length < 8796093022208 then (caravanlaw2_Make.l0 k1 l0 (x3_1 ++ [(⟨Int.tmod (wrap64 (rd l0 x4_1)) 16384, ji7⟩ : S31)]) (wrap64 (x4_1 + 2))) else (none)) = some r := by first | (rw [hji7] at H; exact H) | (simp only [hji7] at H ⊢; exact H)
       have hji7_ : (if (wrap64 ((Int.tmod (wrap64 (rd l0 x4_1)) 16384) + (Int.tmod (wrap64 (rd l0 (ji5))) 300))) < 16383 then (wrap64 ((Int.tmod (wrap64 (rd l0 x4_1)) 16384) + (Int.tmod (wrap64 (rd l0 (ji5))) 300))) else 16383) = ji7 := hji7
       by_cases c8 : x3_1.length < 8796093022208
       ·rw [if_pos c8] at H
        have LMc8 := Aside0.mk c8
        clear c8
        obtain ⟨y373, hy373⟩ : ∃ y_ : List (S31), y_ = (x3_1 ++ [(⟨Int.tmod (wrap64 (rd l0 x4_1)) 16384, ji7⟩ : S31)]) := ⟨_, rfl⟩
        replace H : (caravanlaw2_Make.l0 k1 l0 y373 (wrap64 (x4_1 + 2))) = some r := by first | (rw [hy373]; with_reducible exact H) | (have H2_ := (Option.bind_some _ _).symm.trans H; rw [hy373]; with_reducible exact H2_) | (have H2_ := (Option.bind_some _ _).symm.trans H; with_reducible exact H2_) | with_reducible exact H | (rw [hy373]; exact H) | exact H
        have Ny373 := Aside0.mk hy373
        clear hy373
        have H' := Aside0.mk H
        clear H
        have p371 : 0 ≤ (x4_1 : Int) := of_decide_eq_true (by first | (with_reducible assumption) | assumption)
        have q371 : x4_1 < (l0.length : Int) := of_decide_eq_true (by first | (with_reducible assumption) | assumption)
        obtain ⟨ad371, e371, hx371_0⟩ := Kd.at_int HR0.out x4_1 p371 q371
        cases e371
        replace hx371_0 := (HB.out.cell (World.block_lt_of_cell? w _ hx371_0)).trans hx371_0
        replace p371 := eq_true p371
        replace q371 := eq_true q371
        have p372 : 0 ≤ ((ji5) : Int) := of_decide_eq_true (by first | (with_reducible assumption) | assumption)
        have q372 : (ji5) < (l0.length : Int) := of_decide_eq_true (by first | (with_reducible assumption) | assumption)
        obtain ⟨ad372, e372, hx372_0⟩ := Kd.at_int HR0.out (ji5) p372 q372
        obtain rfl : ad371 = ad372 := (by injection e372)
        replace hx372_0 := (HB.out.cell (World.block_lt_of_cell? w _ hx372_0)).trans hx372_0
        replace p372 := eq_true p372
        replace q372 := eq_true q372
        go_wp2_with (first | ((with_reducible refine gate_builtin (b := .append) (xs := #[.tmp 19, .tmp 32]) rfl ?_); at_builtin; refine Kd.R_append k31 (w0 := w) w.heap.size rfl (.tmp 19) (.tmp 32) 23 31 (.agg #[(.int .i64 0), (.int .i64 0)]) 16 rfl Tryd.underlying23 info31 rfl (by decide) (by omega) u3 x3_1 (⟨Int.tmod (wrap64 (rd l0 x4_1)) 16384, ji7⟩ : S31) [.int .i64 (Int.tmod (wrap64 (rd l0 x4_1)) 16384), .int .i64 ji7] (fun _ => True) (fun _ => False) rfl rfl ?aP (fun _ hk => hk.elim) ?aF ?aO ?aB ?aS ?aL ?_; (case aP => exact k31_mkM _ _ _ (⟨Int.tmod (wrap64 (rd l0 x4_1)) 16384, ji7⟩ : S31)); (case aB => exact (qdb35_ HB.out)); (case aF => exact (fun _ _ => trivial)); (case aO => exact (q8524_ HO_3.out)); (case aS => exact (below_size (qdb35_ HB.out))); (case aL => have := LMc8.out; omega); intro v374 w9 ho hb hg hat; rw [← Ny373.out] at ho; have n0_ := Aside0.mk (hb); have n1_ := Aside0.mk (ho); clear HB; clear HO_3; have HB := n0_; have HO375 := n1_; clear n0_ n1_; clear ho hb hg hat))
        go_roundg k1
        case measure => have := HK1.out; omega
        case rel => exact ⟨(y373), (wrap64 (x4_1 + 2)), (by first | rfl | (simp; done) | (simp [*]; done)), H', ⟨by have := HK1.out; omega⟩, ⟨by (with_reducible repeat (first | apply Kd.R_alloc | apply Kd.R_drewN | apply Kd.R_drew)); exact HO375.out⟩, ⟨(qdb35_ HB.out)⟩⟩
       ·rw [if_neg c8] at H
        exact absurd H (by simp)
      ·rw [if_neg c6] at H
       exact absurd H (by simp)
     ·rw [if_neg c4] at H
      exact absurd H (by simp)
    ·rw [if_neg c3] at H
     exact absurd H (by simp)
   ·rw [if_neg c2] at H
    have c2b0 : decide ((wrap64 (x4_1 + 1)) < (l0.length : Int)) = false := decide_eq_false c2
    clear c2
    obtain rfl := Option.some.inj H
    go_wp2
    go_ret
    exact ⟨_, by first | rfl | (simp [errW_none, errW_some] <;> rfl) | (simp [*, errW_none, errW_some] <;> rfl), by (with_reducible repeat (first | apply Kd.R_alloc | apply Kd.R_drewN | apply Kd.R_drew)); exact HO_3.out, (qdb35_ HB.out)⟩

end Go.Proofs.YtnlakdpfkgjdaaaDoor.G

/- What functions of the translation come to, and their calls' proofs; by a program of mine over the kit's print, with contracts given by hand beside. Conditions: where a plain function tells none, nothing is said. -/
namespace Go.Proofs.YtnlakdpfkgjdaaaDoor.G
open Go.RowKit Go.Proofs.YtnlakdpfkgjdaaaDoorW.PrintWords Go.Proofs.YtnlakdpfkgjdaaaDoorW.PrintLast Go.Proofs.YtnlakdpfkgjdaaaDoorW.PrintMore
attribute [local go_sem] max2_int min2_int max_two min_two max_three min_three max_four min_four   -- for this text's walks alone
set_option linter.unusedVariables false
set_option linter.unusedSimpArgs false

/-! ### caravanlaw2_SpansLaws: function 8 -/
def caravanlaw2_SpansLaws.j0 : Nat → List Int → List Int → Bool → Option (Bool)
 | 0, _, _, _ => none
 | k + 1, x0, x1, x17 => if x17 = true then ((caravanlaw2_awake.f k).bind fun t376 => (some t376)) else ((caravanlaw2_Make.f k x0).bind fun t377 => ((caravanlaw2_Make.f k x1).bind fun t380 => ((spans_Union.f t377 t380).bind fun t383 => ((spans_Minus.f t377 t380).bind fun t386 => ((spans_Both.f t377 t380).bind fun t389 => ((spans_Union.f t380 t377).bind fun t392 => ((caravanref1_SameSpans.f k t383 t392).bind fun t395 => (if t395 = true then ((spans_Both.f t380 t377).bind fun t396 => ((caravanref1_SameSpans.f k t389 t396).bind fun t399 => (if t399 = true then ((spans_Union.f t386 t389).bind fun t400 => ((spans_Norm.f k t377).bind fun t403 => ((caravanref1_SameSpans.f k t400 t403).bind fun t406 => (if t406 = true then ((spans_Both.f t386 t380).bind fun t407 => (if (t407.length : Int) = 0 then ((spans_Count.f k t383).bind fun t410 => ((spans_Count.f k t377).bind fun t411 => ((spans_Count.f k t380).bind fun t412 => ((spans_Count.f k t389).bind fun t413 => (if t410 = (wrap64 ((wrap64 (t411 + t412)) - t413)) then ((spans_Count.f k t386).bind fun t414 => ((spans_Count.f k t377).bind fun t415 => ((spans_Count.f k t389).bind fun t416 => (if t414 = (wrap64 (t415 - t416)) then ((caravanlaw2_awake.f k).bind fun t417 => (some t417)) else (some false))))) else (some false)))))) else (some false))) else (some false))))) else (some false)))) else (some false)))))))))
def caravanlaw2_SpansLaws.f (k : Nat) (l0 : List Int) (l1 : List Int) : Option (Bool) := if (l0.length : Int) > 40 then (caravanlaw2_SpansLaws.j0 k l0 l1 true) else (caravanlaw2_SpansLaws.j0 k l0 l1 (decide ((l1.length : Int) > 40)))
theorem caravanlaw2_SpansLaws.mono_l : ∀ k, (∀ y0 y1 y2, LeO (caravanlaw2_SpansLaws.j0 k y0 y1 y2) (caravanlaw2_SpansLaws.j0 (k + 1) y0 y1 y2))
 | 0 => fun _ _ _ r h => by simp [caravanlaw2_SpansLaws.j0] at h
 | k + 1 => by
  have ih0 := caravanlaw2_SpansLaws.mono_l k
  ·intro y0 y1 y2
   unfold caravanlaw2_SpansLaws.j0
   repeat' first
   | (with_reducible exact ih0 _ _ _)
   | (with_reducible exact caravanlaw2_Make.mono _ _)
   | (with_reducible exact caravanlaw2_awake.mono _)
   | (with_reducible exact caravanref1_SameSpans.mono _ _ _)
   | (with_reducible exact spans_Count.mono _ _)
   | (with_reducible exact spans_Norm.mono _ _)
   | (with_reducible exact LeO.refl _)
   | (with_reducible exact LeO.none _)
   | (with_reducible refine LeO.ite ?_ ?_)
   | (with_reducible refine LeO.bind ?_ (fun _ => ?_))
   | exact ih0 _ _ _
   | exact caravanlaw2_Make.mono _ _
   | exact caravanlaw2_awake.mono _
   | exact caravanref1_SameSpans.mono _ _ _
   | exact spans_Count.mono _ _
   | exact spans_Norm.mono _ _
   | exact LeO.none _
   | refine LeO.ite ?_ ?_
   | refine LeO.bind ?_ (fun _ => ?_)
theorem caravanlaw2_SpansLaws.mono : ∀ a0 a1 k, LeO (caravanlaw2_SpansLaws.f k a0 a1) (caravanlaw2_SpansLaws.f (k + 1) a0 a1) := by
 intro a0 a1 k
 have ih0 := caravanlaw2_SpansLaws.mono_l k
 unfold caravanlaw2_SpansLaws.f
 repeat' first
  | (with_reducible exact ih0 _ _ _)
  | (with_reducible exact caravanlaw2_Make.mono _ _)
  | (with_reducible exact caravanlaw2_awake.mono _)
  | (with_reducible exact caravanref1_SameSpans.mono _ _ _)
  | (with_reducible exact spans_Count.mono _ _)
  | (with_reducible exact spans_Norm.mono _ _)
  | (with_reducible exact LeO.refl _)
  | (with_reducible exact LeO.none _)
  | (with_reducible refine LeO.ite ?_ ?_)
  | (with_reducible refine LeO.bind ?_ (fun _ => ?_))
  | exact ih0 _ _ _
  | exact caravanlaw2_Make.mono _ _
  | exact caravanlaw2_awake.mono _
  | exact caravanref1_SameSpans.mono _ _ _
  | exact spans_Count.mono _ _
  | exact spans_Norm.mono _ _
  | exact LeO.none _
  | refine LeO.ite ?_ ?_
  | refine LeO.bind ?_ (fun _ => ?_)
set_option maxHeartbeats 8000000 in
set_option maxRecDepth 100000 in
theorem caravanlaw2_SpansLaws.calls (k : Nat) (A0 : Option Addr) (c0 : Nat) (l0 : List Int) (A1 : Option Addr) (c1 : Nat) (l1 : List Int) (r : Bool) (w : World) (hr0 : Kd.C (Kd.int .u16) w A0 l0.length l0) (hc0 : l0.length ≤ c0) (hr1 : Kd.C (Kd.int .u16) w A1 l1.length l1) (hc1 : l1.length ≤ c1) (h : caravanlaw2_SpansLaws.f k l0 l1 = some r) (hrt_ : r = true) (hWd_ : Wd w) :
 Calls Tryd.prog 8 #[.slice A0 l0.length c0, .slice A1 l1.length c1] w fun e w' => e = .returned (.bool r) ∧ Below w.heap.size w w' := by
 have HR0 := Aside0.mk hr0
 have HC0 := Aside0.mk hc0
 clear hr0 hc0
 have HR1 := Aside0.mk hr1
 have HC1 := Aside0.mk hc1
 clear hr1 hc1
 have HB := Aside0.mk (Below.refl w.heap.size w)
 have H : (if (l0.length : Int) > 40 then (caravanlaw2_SpansLaws.j0 k l0 l1 true) else (caravanlaw2_SpansLaws.j0 k l0 l1 (decide ((l1.length : Int) > 40)))) = some r := h
 clear h
 have HC3 := Aside0.mk H
 clear H
 go_enter Tryd.func8, Tryd.ntmps8
 go_upto_region 1 with (fail)
 go_cut [17] (fun v17 wc => ∃ (kq : Nat) (x17_2 : Bool), v17 = .bool x17_2 ∧ Aside0 (caravanlaw2_SpansLaws.j0 kq l0 l1 x17_2 = some r) ∧ Aside0 (kq ≤ k) ∧ Aside0 (Below w.heap.size w wc))
 case first =>
  have H := HC3.out
  clear HC3
  by_cases c4 : (l0.length : Int) > 40
  ·rw [if_pos c4] at H
   have c4b0 : decide (40 < (l0.length : Int)) = true := decide_eq_true c4
   have c4b1 : decide (40 < l0.length) = true := decide_eq_true (by omega)
   clear c4
   (first | rw [c4b0] | (simp only [i64_w, i32_w]; rw [c4b0]) | skip)
   have H' := Aside0.mk H
   clear H
   go_wp2
   go_meet
   case rel => exact ⟨_, (true), (by first | rfl | (simp; done) | (simp [*]; done)), H', ⟨by first | omega | exact Nat.le_refl _⟩, ⟨(qdb35_ HB.out)⟩⟩
  ·rw [if_neg c4] at H
   have c4b0 : decide (40 < (l0.length : Int)) = false := decide_eq_false c4
   have c4b1 : decide (40 < l0.length) = false := decide_eq_false (by omega)
   clear c4
   (first | rw [c4b0] | (simp only [i64_w, i32_w]; rw [c4b0]) | skip)
   have H' := Aside0.mk H
   clear H
   go_wp2
   go_meet
   case rel => exact ⟨_, (decide ((l1.length : Int) > 40)), (by first | rfl | (simp; done) | (simp [*]; done)), H', ⟨by first | omega | exact Nat.le_refl _⟩, ⟨(qdb35_ HB.out)⟩⟩
 case rest =>
  clear HC3
  try clear c1
  try clear p2
  try clear c4
  try clear c4b0
  try clear c4b1
  obtain ⟨kq, x17_2, rfl, HA, HJ2, HB⟩ := hcut
  cases kq with
  | zero => exact absurd HA.out (by simp [caravanlaw2_SpansLaws.j0])
  | succ kj2 =>
   have H := HA.out
   clear HA
   simp only [caravanlaw2_SpansLaws.j0] at H
   by_cases c5 : x17_2 = true
   ·subst c5
    have H1 : ((caravanlaw2_awake.f kj2).bind fun t376 => (some t376)) = some r := by rw [if_pos rfl] at H; exact H
    clear H
    have H := H1
    clear H1
    replace H := Option.bind_eq_some_iff.mp H
    obtain ⟨t376, A60, H⟩ := H
    replace H : (some t376) = some r := H
    have A6 := Aside0.mk A60
    clear A60
    obtain rfl := Option.some.inj H
    go_wp2_with (first | ((with_reducible refine gate_callee (f := 9) rfl ?_); refine goesL_ (some 18) rfl rfl Tryd.func9 (by kernel_rfl) rfl #[] rfl qM_ ?_; (with_reducible refine (caravanlaw2_awake.calls kj2  t376 _ A6.out (Wd.of hWd_ (qdb35_ HB.out))).mono ?_); rintro e w7 ⟨rfl, hb⟩; refine ⟨_, rfl, ?_⟩; have n0_ := Aside0.mk (below_step (qdb35_ HB.out) hb); clear HB; have HB := n0_; clear n0_; (try clear hb); (try clear hb2); (try clear hk); (try clear hi)))
    go_ret
    exact ⟨by first | rfl | (simp [errW_none, errW_some] <;> rfl) | (simp [*, errW_none, errW_some] <;> rfl), (qdb35_ HB.out)⟩
   ·replace c5 := Bool.eq_false_iff.mpr c5
    subst c5
    have H1 : ((caravanlaw2_Make.f kj2 l0).bind fun t377 => ((caravanlaw2_Make.f kj2 l1).bind fun t380 => ((spans_Union.f t377 t380).bind fun t383 => ((spans_Minus.f t377 t380).bind fun t386 => ((spans_Both.f t377 t380).bind fun t389 => ((spans_Union.f t380 t377).bind fun t392 => ((caravanref1_SameSpans.f kj2 t383 t392).bind fun t395 => (if t395 = true then ((spans_Both.f t380 t377).bind fun t396 => ((caravanref1_SameSpans.f kj2 t389 t396).bind fun t399 => (if t399 = true then ((spans_Union.f t386 t389).bind fun t400 => ((spans_Norm.f kj2 t377).bind fun t403 => ((caravanref1_SameSpans.f kj2 t400 t403).bind fun t406 => (if t406 = true then ((spans_Both.f t386 t380).bind fun t407 => (if (t407.length : Int) = 0 then ((spans_Count.f kj2 t383).bind fun t410 => ((spans_Count.f kj2 t377).bind fun t411 => ((spans_Count.f kj2 t380).bind fun t412 => ((spans_Count.f kj2 t389).bind fun t413 => (if t410 = (wrap64 ((wrap64 (t411 + t412)) - t413)) then ((spans_Count.f kj2 t386).bind fun t414 => ((spans_Count.f kj2 t377).bind fun t415 => ((spans_Count.f kj2 t389).bind fun t416 => (if t414 = (wrap64 (t415 - t416)) then ((caravanlaw2_awake.f kj2).bind fun t417 => (some t417)) else (some false))))) else (some false)))))) else (some false))) else (some false))))) else (some false)))) else (some false))))))))) = some r := by rw [if_neg (show ¬ (false = true) by decide)] at H; exact H
    clear H
    have H := H1
    clear H1
    replace H := Option.bind_eq_some_iff.mp H
    obtain ⟨t377, A80, H⟩ := H
    replace H : ((caravanlaw2_Make.f kj2 l1).bind fun t380 => ((spans_Union.f t377 t380).bind fun t383 => ((spans_Minus.f t377 t380).bind fun t386 => ((spans_Both.f t377 t380).bind fun t389 => ((spans_Union.f t380 t377).bind fun t392 => ((caravanref1_SameSpans.f kj2 t383 t392).bind fun t395 => (if t395 = true then ((spans_Both.f t380 t377).bind fun t396 => ((caravanref1_SameSpans.f kj2 t389 t396).bind fun t399 => (if t399 = true then ((spans_Union.f t386 t389).bind fun t400 => ((spans_Norm.f kj2 t377).bind fun t403 => ((caravanref1_SameSpans.f kj2 t400 t403).bind fun t406 => (if t406 = true then ((spans_Both.f t386 t380).bind fun t407 => (if (t407.length : Int) = 0 then ((spans_Count.f kj2 t383).bind fun t410 => ((spans_Count.f kj2 t377).bind fun t411 => ((spans_Count.f kj2 t380).bind fun t412 => ((spans_Count.f kj2 t389).bind fun t413 => (if t410 = (wrap64 ((wrap64 (t411 + t412)) - t413)) then ((spans_Count.f kj2 t386).bind fun t414 => ((spans_Count.f kj2 t377).bind fun t415 => ((spans_Count.f kj2 t389).bind fun t416 => (if t414 = (wrap64 (t415 - t416)) then ((caravanlaw2_awake.f kj2).bind fun t417 => (some t417)) else (some false))))) else (some false)))))) else (some false))) else (some false))))) else (some false)))) else (some false)))))))) = some r := H
    have A8 := Aside0.mk A80
    clear A80
    replace H := Option.bind_eq_some_iff.mp H
    obtain ⟨t380, A90, H⟩ := H
    replace H : ((spans_Union.f t377 t380).bind fun t383 => ((spans_Minus.f t377 t380).bind fun t386 => ((spans_Both.f t377 t380).bind fun t389 => ((spans_Union.f t380 t377).bind fun t392 => ((caravanref1_SameSpans.f kj2 t383 t392).bind fun t395 => (if t395 = true then ((spans_Both.f t380 t377).bind fun t396 => ((caravanref1_SameSpans.f kj2 t389 t396).bind fun t399 => (if t399 = true then ((spans_Union.f t386 t389).bind fun t400 => ((spans_Norm.f kj2 t377).bind fun t403 => ((caravanref1_SameSpans.f kj2 t400 t403).bind fun t406 => (if t406 = true then ((spans_Both.f t386 t380).bind fun t407 => (if (t407.length : Int) = 0 then ((spans_Count.f kj2 t383).bind fun t410 => ((spans_Count.f kj2 t377).bind fun t411 => ((spans_Count.f kj2 t380).bind fun t412 => ((spans_Count.f kj2 t389).bind fun t413 => (if t410 = (wrap64 ((wrap64 (t411 + t412)) - t413)) then ((spans_Count.f kj2 t386).bind fun t414 => ((spans_Count.f kj2 t377).bind fun t415 => ((spans_Count.f kj2 t389).bind fun t416 => (if t414 = (wrap64 (t415 - t416)) then ((caravanlaw2_awake.f kj2).bind fun t417 => (some t417)) else (some false))))) else (some false)))))) else (some false))) else (some false))))) else (some false)))) else (some false))))))) = some r := H
    have A9 := Aside0.mk A90
    clear A90
    replace H := Option.bind_eq_some_iff.mp H
    obtain ⟨t383, A100, H⟩ := H
    replace H : ((spans_Minus.f t377 t380).bind fun t386 => ((spans_Both.f t377 t380).bind fun t389 => ((spans_Union.f t380 t377).bind fun t392 => ((caravanref1_SameSpans.f kj2 t383 t392).bind fun t395 => (if t395 = true then ((spans_Both.f t380 t377).bind fun t396 => ((caravanref1_SameSpans.f kj2 t389 t396).bind fun t399 => (if t399 = true then ((spans_Union.f t386 t389).bind fun t400 => ((spans_Norm.f kj2 t377).bind fun t403 => ((caravanref1_SameSpans.f kj2 t400 t403).bind fun t406 => (if t406 = true then ((spans_Both.f t386 t380).bind fun t407 => (if (t407.length : Int) = 0 then ((spans_Count.f kj2 t383).bind fun t410 => ((spans_Count.f kj2 t377).bind fun t411 => ((spans_Count.f kj2 t380).bind fun t412 => ((spans_Count.f kj2 t389).bind fun t413 => (if t410 = (wrap64 ((wrap64 (t411 + t412)) - t413)) then ((spans_Count.f kj2 t386).bind fun t414 => ((spans_Count.f kj2 t377).bind fun t415 => ((spans_Count.f kj2 t389).bind fun t416 => (if t414 = (wrap64 (t415 - t416)) then ((caravanlaw2_awake.f kj2).bind fun t417 => (some t417)) else (some false))))) else (some false)))))) else (some false))) else (some false))))) else (some false)))) else (some false)))))) = some r := H
    have A10 := Aside0.mk A100
    clear A100
    replace H := Option.bind_eq_some_iff.mp H
    obtain ⟨t386, A110, H⟩ := H
    replace H : ((spans_Both.f t377 t380).bind fun t389 => ((spans_Union.f t380 t377).bind fun t392 => ((caravanref1_SameSpans.f kj2 t383 t392).bind fun t395 => (if t395 = true then ((spans_Both.f t380 t377).bind fun t396 => ((caravanref1_SameSpans.f kj2 t389 t396).bind fun t399 => (if t399 = true then ((spans_Union.f t386 t389).bind fun t400 => ((spans_Norm.f kj2 t377).bind fun t403 => ((caravanref1_SameSpans.f kj2 t400 t403).bind fun t406 => (if t406 = true then ((spans_Both.f t386 t380).bind fun t407 => (if (t407.length : Int) = 0 then ((spans_Count.f kj2 t383).bind fun t410 => ((spans_Count.f kj2 t377).bind fun t411 => ((spans_Count.f kj2 t380).bind fun t412 => ((spans_Count.f kj2 t389).bind fun t413 => (if t410 = (wrap64 ((wrap64 (t411 + t412)) - t413)) then ((spans_Count.f kj2 t386).bind fun t414 => ((spans_Count.f kj2 t377).bind fun t415 => ((spans_Count.f kj2 t389).bind fun t416 => (if t414 = (wrap64 (t415 - t416)) then ((caravanlaw2_awake.f kj2).bind fun t417 => (some t417)) else (some false))))) else (some false)))))) else (some false))) else (some false))))) else (some false)))) else (some false))))) = some r := H
    have A11 := Aside0.mk A110
    clear A110
    replace H := Option.bind_eq_some_iff.mp H
    obtain ⟨t389, A120, H⟩ := H
    replace H : ((spans_Union.f t380 t377).bind fun t392 => ((caravanref1_SameSpans.f kj2 t383 t392).bind fun t395 => (if t395 = true then ((spans_Both.f t380 t377).bind fun t396 => ((caravanref1_SameSpans.f kj2 t389 t396).bind fun t399 => (if t399 = true then ((spans_Union.f t386 t389).bind fun t400 => ((spans_Norm.f kj2 t377).bind fun t403 => ((caravanref1_SameSpans.f kj2 t400 t403).bind fun t406 => (if t406 = true then ((spans_Both.f t386 t380).bind fun t407 => (if (t407.length : Int) = 0 then ((spans_Count.f kj2 t383).bind fun t410 => ((spans_Count.f kj2 t377).bind fun t411 => ((spans_Count.f kj2 t380).bind fun t412 => ((spans_Count.f kj2 t389).bind fun t413 => (if t410 = (wrap64 ((wrap64 (t411 + t412)) - t413)) then ((spans_Count.f kj2 t386).bind fun t414 => ((spans_Count.f kj2 t377).bind fun t415 => ((spans_Count.f kj2 t389).bind fun t416 => (if t414 = (wrap64 (t415 - t416)) then ((caravanlaw2_awake.f kj2).bind fun t417 => (some t417)) else (some false))))) else (some false)))))) else (some false))) else (some false))))) else (some false)))) else (some false)))) = some r := H
    have A12 := Aside0.mk A120
    clear A120
    replace H := Option.bind_eq_some_iff.mp H
    obtain ⟨t392, A130, H⟩ := H
    replace H : ((caravanref1_SameSpans.f kj2 t383 t392).bind fun t395 => (if t395 = true then ((spans_Both.f t380 t377).bind fun t396 => ((caravanref1_SameSpans.f kj2 t389 t396).bind fun t399 => (if t399 = true then ((spans_Union.f t386 t389).bind fun t400 => ((spans_Norm.f kj2 t377).bind fun t403 => ((caravanref1_SameSpans.f kj2 t400 t403).bind fun t406 => (if t406 = true then ((spans_Both.f t386 t380).bind fun t407 => (if (t407.length : Int) = 0 then ((spans_Count.f kj2 t383).bind fun t410 => ((spans_Count.f kj2 t377).bind fun t411 => ((spans_Count.f kj2 t380).bind fun t412 => ((spans_Count.f kj2 t389).bind fun t413 => (if t410 = (wrap64 ((wrap64 (t411 + t412)) - t413)) then ((spans_Count.f kj2 t386).bind fun t414 => ((spans_Count.f kj2 t377).bind fun t415 => ((spans_Count.f kj2 t389).bind fun t416 => (if t414 = (wrap64 (t415 - t416)) then ((caravanlaw2_awake.f kj2).bind fun t417 => (some t417)) else (some false))))) else (some false)))))) else (some false))) else (some false))))) else (some false)))) else (some false))) = some r := H
    have A13 := Aside0.mk A130
    clear A130
    replace H := Option.bind_eq_some_iff.mp H
    obtain ⟨t395, A140, H⟩ := H
    replace H : (if t395 = true then ((spans_Both.f t380 t377).bind fun t396 => ((caravanref1_SameSpans.f kj2 t389 t396).bind fun t399 => (if t399 = true then ((spans_Union.f t386 t389).bind fun t400 => ((spans_Norm.f kj2 t377).bind fun t403 => ((caravanref1_SameSpans.f kj2 t400 t403).bind fun t406 => (if t406 = true then ((spans_Both.f t386 t380).bind fun t407 => (if (t407.length : Int) = 0 then ((spans_Count.f kj2 t383).bind fun t410 => ((spans_Count.f kj2 t377).bind fun t411 => ((spans_Count.f kj2 t380).bind fun t412 => ((spans_Count.f kj2 t389).bind fun t413 => (if t410 = (wrap64 ((wrap64 (t411 + t412)) - t413)) then ((spans_Count.f kj2 t386).bind fun t414 => ((spans_Count.f kj2 t377).bind fun t415 => ((spans_Count.f kj2 t389).bind fun t416 => (if t414 = (wrap64 (t415 - t416)) then ((caravanlaw2_awake.f kj2).bind fun t417 => (some t417)) else (some false))))) else (some false)))))) else (some false))) else (some false))))) else (some false)))) else (some false)) = some r := H
    have A14 := Aside0.mk A140
    clear A140
    by_cases c15 : t395 = true
    ·subst c15
     have H1 : ((spans_Both.f t380 t377).bind fun t396 => ((caravanref1_SameSpans.f kj2 t389 t396).bind fun t399 => (if t399 = true then ((spans_Union.f t386 t389).bind fun t400 => ((spans_Norm.f kj2 t377).bind fun t403 => ((caravanref1_SameSpans.f kj2 t400 t403).bind fun t406 => (if t406 = true then ((spans_Both.f t386 t380).bind fun t407 => (if (t407.length : Int) = 0 then ((spans_Count.f kj2 t383).bind fun t410 => ((spans_Count.f kj2 t377).bind fun t411 => ((spans_Count.f kj2 t380).bind fun t412 => ((spans_Count.f kj2 t389).bind fun t413 => (if t410 = (wrap64 ((wrap64 (t411 + t412)) - t413)) then ((spans_Count.f kj2 t386).bind fun t414 => ((spans_Count.f kj2 t377).bind fun t415 => ((spans_Count.f kj2 t389).bind fun t416 => (if t414 = (wrap64 (t415 - t416)) then ((caravanlaw2_awake.f kj2).bind fun t417 => (some t417)) else (some false))))) else (some false)))))) else (some false))) else (some false))))) else (some false)))) = some r := by rw [if_pos rfl] at H; exact H
     clear H
     have H := H1
     clear H1
     replace H := Option.bind_eq_some_iff.mp H
     obtain ⟨t396, A160, H⟩ := H
     replace H : ((caravanref1_SameSpans.f kj2 t389 t396).bind fun t399 => (if t399 = true then ((spans_Union.f t386 t389).bind fun t400 => ((spans_Norm.f kj2 t377).bind fun t403 => ((caravanref1_SameSpans.f kj2 t400 t403).bind fun t406 => (if t406 = true then ((spans_Both.f t386 t380).bind fun t407 => (if (t407.length : Int) = 0 then ((spans_Count.f kj2 t383).bind fun t410 => ((spans_Count.f kj2 t377).bind fun t411 => ((spans_Count.f kj2 t380).bind fun t412 => ((spans_Count.f kj2 t389).bind fun t413 => (if t410 = (wrap64 ((wrap64 (t411 + t412)) - t413)) then ((spans_Count.f kj2 t386).bind fun t414 => ((spans_Count.f kj2 t377).bind fun t415 => ((spans_Count.f kj2 t389).bind fun t416 => (if t414 = (wrap64 (t415 - t416)) then ((caravanlaw2_awake.f kj2).bind fun t417 => (some t417)) else (some false))))) else (some false)))))) else (some false))) else (some false))))) else (some false))) = some r := H
     have A16 := Aside0.mk A160
     clear A160
     replace H := Option.bind_eq_some_iff.mp H
     obtain ⟨t399, A170, H⟩ := H
     replace H : (if t399 = true then ((spans_Union.f t386 t389).bind fun t400 => ((spans_Norm.f kj2 t377).bind fun t403 => ((caravanref1_SameSpans.f kj2 t400 t403).bind fun t406 => (if t406 = true then ((spans_Both.f t386 t380).bind fun t407 => (if (t407.length : Int) = 0 then ((spans_Count.f kj2 t383).bind fun t410 => ((spans_Count.f kj2 t377).bind fun t411 => ((spans_Count.f kj2 t380).bind fun t412 => ((spans_Count.f kj2 t389).bind fun t413 => (if t410 = (wrap64 ((wrap64 (t411 + t412)) - t413)) then ((spans_Count.f kj2 t386).bind fun t414 => ((spans_Count.f kj2 t377).bind fun t415 => ((spans_Count.f kj2 t389).bind fun t416 => (if t414 = (wrap64 (t415 - t416)) then ((caravanlaw2_awake.f kj2).bind fun t417 => (some t417)) else (some false))))) else (some false)))))) else (some false))) else (some false))))) else (some false)) = some r := H
     have A17 := Aside0.mk A170
     clear A170
     by_cases c18 : t399 = true
     ·subst c18
      have H1 : ((spans_Union.f t386 t389).bind fun t400 => ((spans_Norm.f kj2 t377).bind fun t403 => ((caravanref1_SameSpans.f kj2 t400 t403).bind fun t406 => (if t406 = true then ((spans_Both.f t386 t380).bind fun t407 => (if (t407.length : Int) = 0 then ((spans_Count.f kj2 t383).bind fun t410 => ((spans_Count.f kj2 t377).bind fun t411 => ((spans_Count.f kj2 t380).bind fun t412 => ((spans_Count.f kj2 t389).bind fun t413 => (if t410 = (wrap64 ((wrap64 (t411 + t412)) - t413)) then ((spans_Count.f kj2 t386).bind fun t414 => ((spans_Count.f kj2 t377).bind fun t415 => ((spans_Count.f kj2 t389).bind fun t416 => (if t414 = (wrap64 (t415 - t416)) then ((caravanlaw2_awake.f kj2).bind fun t417 => (some t417)) else (some false))))) else (some false)))))) else (some false))) else (some false))))) = some r := by rw [if_pos rfl] at H; exact H
      clear H
      have H := H1
      clear H1
      replace H := Option.bind_eq_some_iff.mp H
      obtain ⟨t400, A190, H⟩ := H
      replace H : ((spans_Norm.f kj2 t377).bind fun t403 => ((caravanref1_SameSpans.f kj2 t400 t403).bind fun t406 => (if t406 = true then ((spans_Both.f t386 t380).bind fun t407 => (if (t407.length : Int) = 0 then ((spans_Count.f kj2 t383).bind fun t410 => ((spans_Count.f kj2 t377).bind fun t411 => ((spans_Count.f kj2 t380).bind fun t412 => ((spans_Count.f kj2 t389).bind fun t413 => (if t410 = (wrap64 ((wrap64 (t411 + t412)) - t413)) then ((spans_Count.f kj2 t386).bind fun t414 => ((spans_Count.f kj2 t377).bind fun t415 => ((spans_Count.f kj2 t389).bind fun t416 => (if t414 = (wrap64 (t415 - t416)) then ((caravanlaw2_awake.f kj2).bind fun t417 => (some t417)) else (some false))))) else (some false)))))) else (some false))) else (some false)))) = some r := H
      have A19 := Aside0.mk A190
      clear A190
      replace H := Option.bind_eq_some_iff.mp H
      obtain ⟨t403, A200, H⟩ := H
      replace H : ((caravanref1_SameSpans.f kj2 t400 t403).bind fun t406 => (if t406 = true then ((spans_Both.f t386 t380).bind fun t407 => (if (t407.length : Int) = 0 then ((spans_Count.f kj2 t383).bind fun t410 => ((spans_Count.f kj2 t377).bind fun t411 => ((spans_Count.f kj2 t380).bind fun t412 => ((spans_Count.f kj2 t389).bind fun t413 => (if t410 = (wrap64 ((wrap64 (t411 + t412)) - t413)) then ((spans_Count.f kj2 t386).bind fun t414 => ((spans_Count.f kj2 t377).bind fun t415 => ((spans_Count.f kj2 t389).bind fun t416 => (if t414 = (wrap64 (t415 - t416)) then ((caravanlaw2_awake.f kj2).bind fun t417 => (some t417)) else (some false))))) else (some false)))))) else (some false))) else (some false))) = some r := H
      have A20 := Aside0.mk A200
      clear A200
      replace H := Option.bind_eq_some_iff.mp H
      obtain ⟨t406, A210, H⟩ := H
      replace H : (if t406 = true then ((spans_Both.f t386 t380).bind fun t407 => (if (t407.length : Int) = 0 then ((spans_Count.f kj2 t383).bind fun t410 => ((spans_Count.f kj2 t377).bind fun t411 => ((spans_Count.f kj2 t380).bind fun t412 => ((spans_Count.f kj2 t389).bind fun t413 => (if t410 = (wrap64 ((wrap64 (t411 + t412)) - t413)) then ((spans_Count.f kj2 t386).bind fun t414 => ((spans_Count.f kj2 t377).bind fun t415 => ((spans_Count.f kj2 t389).bind fun t416 => (if t414 = (wrap64 (t415 - t416)) then ((caravanlaw2_awake.f kj2).bind fun t417 => (some t417)) else (some false))))) else (some false)))))) else (some false))) else (some false)) = some r := H
      have A21 := Aside0.mk A210
      clear A210
      by_cases c22 : t406 = true
      ·subst c22
       have H1 : ((spans_Both.f t386 t380).bind fun t407 => (if (t407.length : Int) = 0 then ((spans_Count.f kj2 t383).bind fun t410 => ((spans_Count.f kj2 t377).bind fun t411 => ((spans_Count.f kj2 t380).bind fun t412 => ((spans_Count.f kj2 t389).bind fun t413 => (if t410 = (wrap64 ((wrap64 (t411 + t412)) - t413)) then ((spans_Count.f kj2 t386).bind fun t414 => ((spans_Count.f kj2 t377).bind fun t415 => ((spans_Count.f kj2 t389).bind fun t416 => (if t414 = (wrap64 (t415 - t416)) then ((caravanlaw2_awake.f kj2).bind fun t417 => (some t417)) else (some false))))) else (some false)))))) else (some false))) = some r := by rw [if_pos rfl] at H; exact H
       clear H
       have H := H1
       clear H1
       replace H := Option.bind_eq_some_iff.mp H
       obtain ⟨t407, A230, H⟩ := H
       replace H : (if (t407.length : Int) = 0 then ((spans_Count.f kj2 t383).bind fun t410 => ((spans_Count.f kj2 t377).bind fun t411 => ((spans_Count.f kj2 t380).bind fun t412 => ((spans_Count.f kj2 t389).bind fun t413 => (if t410 = (wrap64 ((wrap64 (t411 + t412)) - t413)) then ((spans_Count.f kj2 t386).bind fun t414 => ((spans_Count.f kj2 t377).bind fun t415 => ((spans_Count.f kj2 t389).bind fun t416 => (if t414 = (wrap64 (t415 - t416)) then ((caravanlaw2_awake.f kj2).bind fun t417 => (some t417)) else (some false))))) else (some false)))))) else (some false)) = some r := H
       have A23 := Aside0.mk A230
       clear A230
       by_cases c24 : (t407.length : Int) = 0
       ·rw [if_pos c24] at H
        have c24b0 : ((t407.length : Int) == 0) = true := beq_iff_eq.mpr c24
        have c24b1 : ((t407.length : Int) != 0) = false := bne_eq_false_iff_eq.mpr c24
        clear c24
        replace H := Option.bind_eq_some_iff.mp H
        obtain ⟨t410, A250, H⟩ := H
        replace H : ((spans_Count.f kj2 t377).bind fun t411 => ((spans_Count.f kj2 t380).bind fun t412 => ((spans_Count.f kj2 t389).bind fun t413 => (if t410 = (wrap64 ((wrap64 (t411 + t412)) - t413)) then ((spans_Count.f kj2 t386).bind fun t414 => ((spans_Count.f kj2 t377).bind fun t415 => ((spans_Count.f kj2 t389).bind fun t416 => (if t414 = (wrap64 (t415 - t416)) then ((caravanlaw2_awake.f kj2).bind fun t417 => (some t417)) else (some false))))) else (some false))))) = some r := H
        have A25 := Aside0.mk A250
        clear A250
        replace H := Option.bind_eq_some_iff.mp H
        obtain ⟨t411, A260, H⟩ := H
        replace H : ((spans_Count.f kj2 t380).bind fun t412 => ((spans_Count.f kj2 t389).bind fun t413 => (if t410 = (wrap64 ((wrap64 (t411 + t412)) - t413)) then ((spans_Count.f kj2 t386).bind fun t414 => ((spans_Count.f kj2 t377).bind fun t415 => ((spans_Count.f kj2 t389).bind fun t416 => (if t414 = (wrap64 (t415 - t416)) then ((caravanlaw2_awake.f kj2).bind fun t417 => (some t417)) else (some false))))) else (some false)))) = some r := H
        have A26 := Aside0.mk A260
        clear A260
        replace H := Option.bind_eq_some_iff.mp H
        obtain ⟨t412, A270, H⟩ := H
        replace H : ((spans_Count.f kj2 t389).bind fun t413 => (if t410 = (wrap64 ((wrap64 (t411 + t412)) - t413)) then ((spans_Count.f kj2 t386).bind fun t414 => ((spans_Count.f kj2 t377).bind fun t415 => ((spans_Count.f kj2 t389).bind fun t416 => (if t414 = (wrap64 (t415 - t416)) then ((caravanlaw2_awake.f kj2).bind fun t417 => (some t417)) else (some false))))) else (some false))) = some r := H
        have A27 := Aside0.mk A270
        clear A270
        replace H := Option.bind_eq_some_iff.mp H
        obtain ⟨t413, A280, H⟩ := H
        replace H : (if t410 = (wrap64 ((wrap64 (t411 + t412)) - t413)) then ((spans_Count.f kj2 t386).bind fun t414 => ((spans_Count.f kj2 t377).bind fun t415 => ((spans_Count.f kj2 t389).bind fun t416 => (if t414 = (wrap64 (t415 - t416)) then ((caravanlaw2_awake.f kj2).bind fun t417 => (some t417)) else (some false))))) else (some false)) = some r := H
        have A28 := Aside0.mk A280
        clear A280
        by_cases c29 : t410 = (wrap64 ((wrap64 (t411 + t412)) - t413))
        ·rw [if_pos c29] at H
         have c29b0 : (t410 == (wrap64 ((wrap64 (t411 + t412)) - t413))) = true := beq_iff_eq.mpr c29
         have c29b1 : (t410 != (wrap64 ((wrap64 (t411 + t412)) - t413))) = false := bne_eq_false_iff_eq.mpr c29
         clear c29
         replace H := Option.bind_eq_some_iff.mp H
         obtain ⟨t414, A300, H⟩ := H
         replace H : ((spans_Count.f kj2 t377).bind fun t415 => ((spans_Count.f kj2 t389).bind fun t416 => (if t414 = (wrap64 (t415 - t416)) then ((caravanlaw2_awake.f kj2).bind fun t417 => (some t417)) else (some false)))) = some r := H
         have A30 := Aside0.mk A300
         clear A300
         replace H := Option.bind_eq_some_iff.mp H
         obtain ⟨t415, A310, H⟩ := H
         have e_twice : t415 = t411 := Option.some.inj (A310.symm.trans A26.out)
         rw [e_twice] at H
         rw [e_twice] at A310
         clear e_twice
         replace H : ((spans_Count.f kj2 t389).bind fun t416 => (if t414 = (wrap64 (t411 - t416)) then ((caravanlaw2_awake.f kj2).bind fun t417 => (some t417)) else (some false))) = some r := H
         have A31 := Aside0.mk A310
         clear A310
         replace H := Option.bind_eq_some_iff.mp H
         obtain ⟨t416, A320, H⟩ := H
         have e_twice : t416 = t413 := Option.some.inj (A320.symm.trans A28.out)
         rw [e_twice] at H
         rw [e_twice] at A320
         clear e_twice
         replace H : (if t414 = (wrap64 (t411 - t413)) then ((caravanlaw2_awake.f kj2).bind fun t417 => (some t417)) else (some false)) = some r := H
         have A32 := Aside0.mk A320
         clear A320
         by_cases c33 : t414 = (wrap64 (t411 - t413))
         ·rw [if_pos c33] at H
          have c33b0 : (t414 == (wrap64 (t411 - t413))) = true := beq_iff_eq.mpr c33
          have c33b1 : (t414 != (wrap64 (t411 - t413))) = false := bne_eq_false_iff_eq.mpr c33
          clear c33
          replace H := Option.bind_eq_some_iff.mp H
          obtain ⟨t417, A340, H⟩ := H
          replace H : (some t417) = some r := H
          have A34 := Aside0.mk A340
          clear A340
          obtain rfl := Option.some.inj H
          go_wp2_with (first | ((with_reducible refine gate_callee (f := 28) rfl ?_); refine goesL_ (some 20) rfl rfl Tryd.func28 (by kernel_rfl) rfl #[.slice A0 l0.length c0] rfl qM_ ?_; (with_reducible refine (caravanlaw2_Make.calls kj2 _ _ l0 t377 _ ?side1 ?side2 A8.out).mono ?_); (case side1 => exact qC_ ((Kd.C_below HR0.out HB.out))); (case side2 => exact HC0.out); rintro e w35 ⟨v378, rfl, ho0, hb⟩; refine ⟨_, rfl, ?_⟩; have n0_ := Aside0.mk (Kd.R_lower ho0 (below_size (qdb35_ HB.out))); have n1_ := Aside0.mk (below_step (qdb35_ HB.out) hb); clear HB; have HO379 := n0_; have HB := n1_; clear n0_ n1_; (try clear hb); (try clear hb2); (try clear hk); (try clear hi); (try clear ho0)) | ((with_reducible refine gate_callee (f := 28) rfl ?_); refine goesL_ (some 22) rfl rfl Tryd.func28 (by kernel_rfl) rfl #[.slice A1 l1.length c1] rfl qM_ ?_; (with_reducible refine (caravanlaw2_Make.calls kj2 _ _ l1 t380 _ ?side1 ?side2 A9.out).mono ?_); (case side1 => exact qC_ ((Kd.C_below HR1.out HB.out))); (case side2 => exact HC1.out); rintro e w36 ⟨v381, rfl, ho0, hb⟩; refine ⟨_, rfl, ?_⟩; have n0_ := Aside0.mk (Kd.R_elder' (q8524_ HO379.out) (Kd.R_base ho0) hb); have n1_ := Aside0.mk (Kd.R_lower (Kd.R_new' ho0 (Kd.R_lt (q8524_ HO379.out))) (below_size (qdb35_ HB.out))); have n2_ := Aside0.mk (below_step (qdb35_ HB.out) hb); clear HO379; clear HB; have HO379 := n0_; have HO382 := n1_; have HB := n2_; clear n0_ n1_ n2_; (try clear hb); (try clear hb2); (try clear hk); (try clear hi); (try clear ho0); obtain ⟨Ao37, co37, eo37⟩ := Kd.R_slice HO379.out; subst eo37; obtain ⟨Ao38, co38, eo38⟩ := Kd.R_slice HO382.out; subst eo38) | ((with_reducible refine gate_callee (f := 24) rfl ?_); refine goesL_ (some 25) rfl rfl Tryd.func24 (by kernel_rfl) rfl #[.slice Ao37 t377.length co37, .slice Ao38 t380.length co38] rfl qM_ ?_; (with_reducible refine (spans_Union.calls _ _ t377 _ _ t380 t383 _ ?side1 ?side2 ?side3 ?side4 A10.out).mono ?_); (case side1 => exact qC_ ((Kd.R_reads' HO379.out).2.2)); (case side2 => exact (Kd.R_reads' HO379.out).2.1); (case side3 => exact qC_ ((Kd.R_reads' HO382.out).2.2)); (case side4 => exact (Kd.R_reads' HO382.out).2.1); rintro e w39 ⟨v384, rfl, ho0, hb⟩; refine ⟨_, rfl, ?_⟩; have n0_ := Aside0.mk (Kd.R_elder' (q8524_ HO379.out) (Kd.R_base ho0) hb); have n1_ := Aside0.mk (Kd.R_elder' (q8524_ HO382.out) (Kd.R_base ho0) hb); have n2_ := Aside0.mk (Kd.R_lower (Kd.R_new' (Kd.R_new' ho0 (Kd.R_lt (q8524_ HO379.out))) (Kd.R_lt (q8524_ HO382.out))) (below_size (qdb35_ HB.out))); have n3_ := Aside0.mk (below_step (qdb35_ HB.out) hb); clear HO379; clear HO382; clear HB; have HO379 := n0_; have HO382 := n1_; have HO385 := n2_; have HB := n3_; clear n0_ n1_ n2_ n3_; (try clear hb); (try clear hb2); (try clear hk); (try clear hi); (try clear ho0)) | ((with_reducible refine gate_callee (f := 26) rfl ?_); refine goesL_ (some 28) rfl rfl Tryd.func26 (by kernel_rfl) rfl #[.slice Ao37 t377.length co37, .slice Ao38 t380.length co38] rfl qM_ ?_; (with_reducible refine (spans_Minus.calls _ _ t377 _ _ t380 t386 _ ?side1 ?side2 ?side3 ?side4 A11.out).mono ?_); (case side1 => exact qC_ ((Kd.R_reads' HO379.out).2.2)); (case side2 => exact (Kd.R_reads' HO379.out).2.1); (case side3 => exact qC_ ((Kd.R_reads' HO382.out).2.2)); (case side4 => exact (Kd.R_reads' HO382.out).2.1); rintro e w40 ⟨v387, rfl, ho0, hb⟩; refine ⟨_, rfl, ?_⟩; have n0_ := Aside0.mk (Kd.R_elder' (q8524_ HO379.out) (Kd.R_base ho0) hb); have n1_ := Aside0.mk (Kd.R_elder' (q8524_ HO382.out) (Kd.R_base ho0) hb); have n2_ := Aside0.mk (Kd.R_elder' (q8524_ HO385.out) (Kd.R_base ho0) hb); have n3_ := Aside0.mk (Kd.R_lower (Kd.R_new' (Kd.R_new' (Kd.R_new' ho0 (Kd.R_lt (q8524_ HO379.out))) (Kd.R_lt (q8524_ HO382.out))) (Kd.R_lt (q8524_ HO385.out))) (below_size (qdb35_ HB.out))); have n4_ := Aside0.mk (below_step (qdb35_ HB.out) hb); clear HO379; clear HO382; clear HO385; clear HB; have HO379 := n0_; have HO382 := n1_; have HO385 := n2_; have HO388 := n3_; have HB := n4_; clear n0_ n1_ n2_ n3_ n4_; (try clear hb); (try clear hb2); (try clear hk); (try clear hi); (try clear ho0)) | ((with_reducible refine gate_callee (f := 27) rfl ?_); refine goesL_ (some 31) rfl rfl Tryd.func27 (by kernel_rfl) rfl #[.slice Ao37 t377.length co37, .slice Ao38 t380.length co38] rfl qM_ ?_; (with_reducible refine (spans_Both.calls _ _ t377 _ _ t380 t389 _ ?side1 ?side2 ?side3 ?side4 A12.out).mono ?_); (case side1 => exact qC_ ((Kd.R_reads' HO379.out).2.2)); (case side2 => exact (Kd.R_reads' HO379.out).2.1); (case side3 => exact qC_ ((Kd.R_reads' HO382.out).2.2)); (case side4 => exact (Kd.R_reads' HO382.out).2.1); rintro e w41 ⟨v390, rfl, ho0, hb⟩; refine ⟨_, rfl, ?_⟩; have n0_ := Aside0.mk (Kd.R_elder' (q8524_ HO379.out) (Kd.R_base ho0) hb); have n1_ := Aside0.mk (Kd.R_elder' (q8524_ HO382.out) (Kd.R_base ho0) hb); have n2_ := Aside0.mk (Kd.R_elder' (q8524_ HO385.out) (Kd.R_base ho0) hb); have n3_ := Aside0.mk (Kd.R_elder' (q8524_ HO388.out) (Kd.R_base ho0) hb); have n4_ := Aside0.mk (Kd.R_lower (Kd.R_new' (Kd.R_new' (Kd.R_new' (Kd.R_new' ho0 (Kd.R_lt (q8524_ HO379.out))) (Kd.R_lt (q8524_ HO382.out))) (Kd.R_lt (q8524_ HO385.out))) (Kd.R_lt (q8524_ HO388.out))) (below_size (qdb35_ HB.out))); have n5_ := Aside0.mk (below_step (qdb35_ HB.out) hb); clear HO379; clear HO382; clear HO385; clear HO388; clear HB; have HO379 := n0_; have HO382 := n1_; have HO385 := n2_; have HO388 := n3_; have HO391 := n4_; have HB := n5_; clear n0_ n1_ n2_ n3_ n4_ n5_; (try clear hb); (try clear hb2); (try clear hk); (try clear hi); (try clear ho0)) | ((with_reducible refine gate_callee (f := 24) rfl ?_); refine goesL_ (some 35) rfl rfl Tryd.func24 (by kernel_rfl) rfl #[.slice Ao38 t380.length co38, .slice Ao37 t377.length co37] rfl qM_ ?_; (with_reducible refine (spans_Union.calls _ _ t380 _ _ t377 t392 _ ?side1 ?side2 ?side3 ?side4 A13.out).mono ?_); (case side1 => exact qC_ ((Kd.R_reads' HO382.out).2.2)); (case side2 => exact (Kd.R_reads' HO382.out).2.1); (case side3 => exact qC_ ((Kd.R_reads' HO379.out).2.2)); (case side4 => exact (Kd.R_reads' HO379.out).2.1); rintro e w42 ⟨v393, rfl, ho0, hb⟩; refine ⟨_, rfl, ?_⟩; have n0_ := Aside0.mk (Kd.R_elder' (q8524_ HO379.out) (Kd.R_base ho0) hb); have n1_ := Aside0.mk (Kd.R_elder' (q8524_ HO382.out) (Kd.R_base ho0) hb); have n2_ := Aside0.mk (Kd.R_elder' (q8524_ HO385.out) (Kd.R_base ho0) hb); have n3_ := Aside0.mk (Kd.R_elder' (q8524_ HO388.out) (Kd.R_base ho0) hb); have n4_ := Aside0.mk (Kd.R_elder' (q8524_ HO391.out) (Kd.R_base ho0) hb); have n5_ := Aside0.mk (Kd.R_lower (Kd.R_new' (Kd.R_new' (Kd.R_new' (Kd.R_new' (Kd.R_new' ho0 (Kd.R_lt (q8524_ HO379.out))) (Kd.R_lt (q8524_ HO382.out))) (Kd.R_lt (q8524_ HO385.out))) (Kd.R_lt (q8524_ HO388.out))) (Kd.R_lt (q8524_ HO391.out))) (below_size (qdb35_ HB.out))); have n6_ := Aside0.mk (below_step (qdb35_ HB.out) hb); clear HO379; clear HO382; clear HO385; clear HO388; clear HO391; clear HB; have HO379 := n0_; have HO382 := n1_; have HO385 := n2_; have HO388 := n3_; have HO391 := n4_; have HO394 := n5_; have HB := n6_; clear n0_ n1_ n2_ n3_ n4_ n5_ n6_; (try clear hb); (try clear hb2); (try clear hk); (try clear hi); (try clear ho0); obtain ⟨Ao43, co43, eo43⟩ := Kd.R_slice HO385.out; subst eo43; obtain ⟨Ao44, co44, eo44⟩ := Kd.R_slice HO394.out; subst eo44) | ((with_reducible refine gate_callee (f := 12) rfl ?_); refine goesL_ (some 36) rfl rfl Tryd.func12 (by kernel_rfl) rfl #[.slice Ao43 t383.length co43, .slice Ao44 t392.length co44] rfl qM_ ?_; (with_reducible refine (caravanref1_SameSpans.calls kj2 _ _ t383 _ _ t392 true _ ?side1 ?side2 ?side3 ?side4 A14.out).mono ?_); (case side1 => exact qC_ ((Kd.R_reads' HO385.out).2.2)); (case side2 => exact (Kd.R_reads' HO385.out).2.1); (case side3 => exact qC_ ((Kd.R_reads' HO394.out).2.2)); (case side4 => exact (Kd.R_reads' HO394.out).2.1); rintro e w' ⟨rfl, ⟨nd, rfl⟩⟩; refine ⟨_, rfl, ?_⟩) | (go_at_call 27; (with_reducible refine (spans_Both.calls _ _ t380 _ _ t377 t396 _ ?side1 ?side2 ?side3 ?side4 A16.out).mono ?_); (case side1 => exact qC_ ((Kd.R_reads' HO382.out).2.2)); (case side2 => exact (Kd.R_reads' HO382.out).2.1); (case side3 => exact qC_ ((Kd.R_reads' HO379.out).2.2)); (case side4 => exact (Kd.R_reads' HO379.out).2.1); rintro e w45 ⟨v397, rfl, ho0, hb⟩; have n0_ := Aside0.mk (Kd.R_elder' (q8524_ HO379.out) (Kd.R_base ho0) hb); have n1_ := Aside0.mk (Kd.R_elder' (q8524_ HO382.out) (Kd.R_base ho0) hb); have n2_ := Aside0.mk (Kd.R_elder' (q8524_ HO385.out) (Kd.R_base ho0) hb); have n3_ := Aside0.mk (Kd.R_elder' (q8524_ HO388.out) (Kd.R_base ho0) hb); have n4_ := Aside0.mk (Kd.R_elder' (q8524_ HO391.out) (Kd.R_base ho0) hb); have n5_ := Aside0.mk (Kd.R_elder' (q8524_ HO394.out) (Kd.R_base ho0) hb); have n6_ := Aside0.mk (Kd.R_lower (Kd.R_new' (Kd.R_new' (Kd.R_new' (Kd.R_new' (Kd.R_new' (Kd.R_new' ho0 (Kd.R_lt (q8524_ HO379.out))) (Kd.R_lt (q8524_ HO382.out))) (Kd.R_lt (q8524_ HO385.out))) (Kd.R_lt (q8524_ HO388.out))) (Kd.R_lt (q8524_ HO391.out))) (Kd.R_lt (q8524_ HO394.out))) (below_size (qdb35_ HB.out))); have n7_ := Aside0.mk (below_step (qdb35_ HB.out) hb); clear HO379; clear HO382; clear HO385; clear HO388; clear HO391; clear HO394; clear HB; have HO379 := n0_; have HO382 := n1_; have HO385 := n2_; have HO388 := n3_; have HO391 := n4_; have HO394 := n5_; have HO398 := n6_; have HB := n7_; clear n0_ n1_ n2_ n3_ n4_ n5_ n6_ n7_; (try clear hb); (try clear hb2); (try clear hk); (try clear hi); (try clear ho0); obtain ⟨Ao46, co46, eo46⟩ := Kd.R_slice HO391.out; subst eo46; obtain ⟨Ao47, co47, eo47⟩ := Kd.R_slice HO398.out; subst eo47) | (go_at_call 12; (with_reducible refine (caravanref1_SameSpans.calls kj2 _ _ t389 _ _ t396 true _ ?side1 ?side2 ?side3 ?side4 A17.out).mono ?_); (case side1 => exact qC_ ((Kd.R_reads' HO391.out).2.2)); (case side2 => exact (Kd.R_reads' HO391.out).2.1); (case side3 => exact qC_ ((Kd.R_reads' HO398.out).2.2)); (case side4 => exact (Kd.R_reads' HO398.out).2.1); rintro e w' ⟨rfl, ⟨nd, rfl⟩⟩; obtain ⟨Ao48, co48, eo48⟩ := Kd.R_slice HO388.out; subst eo48) | (go_at_call 24; (with_reducible refine (spans_Union.calls _ _ t386 _ _ t389 t400 _ ?side1 ?side2 ?side3 ?side4 A19.out).mono ?_); (case side1 => exact qC_ ((Kd.R_reads' HO388.out).2.2)); (case side2 => exact (Kd.R_reads' HO388.out).2.1); (case side3 => exact qC_ ((Kd.R_reads' HO391.out).2.2)); (case side4 => exact (Kd.R_reads' HO391.out).2.1); rintro e w49 ⟨v401, rfl, ho0, hb⟩; have n0_ := Aside0.mk (Kd.R_elder' (q8524_ HO379.out) (Kd.R_base ho0) hb); have n1_ := Aside0.mk (Kd.R_elder' (q8524_ HO382.out) (Kd.R_base ho0) hb); have n2_ := Aside0.mk (Kd.R_elder' (q8524_ HO385.out) (Kd.R_base ho0) hb); have n3_ := Aside0.mk (Kd.R_elder' (q8524_ HO388.out) (Kd.R_base ho0) hb); have n4_ := Aside0.mk (Kd.R_elder' (q8524_ HO391.out) (Kd.R_base ho0) hb); have n5_ := Aside0.mk (Kd.R_elder' (q8524_ HO394.out) (Kd.R_base ho0) hb); have n6_ := Aside0.mk (Kd.R_elder' (q8524_ HO398.out) (Kd.R_base ho0) hb); have n7_ := Aside0.mk (Kd.R_lower (Kd.R_new' (Kd.R_new' (Kd.R_new' (Kd.R_new' (Kd.R_new' (Kd.R_new' (Kd.R_new' ho0 (Kd.R_lt (q8524_ HO379.out))) (Kd.R_lt (q8524_ HO382.out))) (Kd.R_lt (q8524_ HO385.out))) (Kd.R_lt (q8524_ HO388.out))) (Kd.R_lt (q8524_ HO391.out))) (Kd.R_lt (q8524_ HO394.out))) (Kd.R_lt (q8524_ HO398.out))) (below_size (qdb35_ HB.out))); have n8_ := Aside0.mk (below_step (qdb35_ HB.out) hb); clear HO379; clear HO382; clear HO385; clear HO388; clear HO391; clear HO394; clear HO398; clear HB; have HO379 := n0_; have HO382 := n1_; have HO385 := n2_; have HO388 := n3_; have HO391 := n4_; have HO394 := n5_; have HO398 := n6_; have HO402 := n7_; have HB := n8_; clear n0_ n1_ n2_ n3_ n4_ n5_ n6_ n7_ n8_; (try clear hb); (try clear hb2); (try clear hk); (try clear hi); (try clear ho0)) | (go_at_call 16; (with_reducible refine (spans_Norm.calls kj2 _ _ t377 t403 _ ?side1 ?side2 A20.out).mono ?_); (case side1 => exact qC_ ((Kd.R_reads' HO379.out).2.2)); (case side2 => exact (Kd.R_reads' HO379.out).2.1); rintro e w50 ⟨v404, rfl, ho0, hb⟩; have n0_ := Aside0.mk (Kd.R_elder' (q8524_ HO379.out) (Kd.R_base ho0) hb); have n1_ := Aside0.mk (Kd.R_elder' (q8524_ HO382.out) (Kd.R_base ho0) hb); have n2_ := Aside0.mk (Kd.R_elder' (q8524_ HO385.out) (Kd.R_base ho0) hb); have n3_ := Aside0.mk (Kd.R_elder' (q8524_ HO388.out) (Kd.R_base ho0) hb); have n4_ := Aside0.mk (Kd.R_elder' (q8524_ HO391.out) (Kd.R_base ho0) hb); have n5_ := Aside0.mk (Kd.R_elder' (q8524_ HO394.out) (Kd.R_base ho0) hb); have n6_ := Aside0.mk (Kd.R_elder' (q8524_ HO398.out) (Kd.R_base ho0) hb); have n7_ := Aside0.mk (Kd.R_elder' (q8524_ HO402.out) (Kd.R_base ho0) hb); have n8_ := Aside0.mk (Kd.R_lower (Kd.R_new' (Kd.R_new' (Kd.R_new' (Kd.R_new' (Kd.R_new' (Kd.R_new' (Kd.R_new' (Kd.R_new' ho0 (Kd.R_lt (q8524_ HO379.out))) (Kd.R_lt (q8524_ HO382.out))) (Kd.R_lt (q8524_ HO385.out))) (Kd.R_lt (q8524_ HO388.out))) (Kd.R_lt (q8524_ HO391.out))) (Kd.R_lt (q8524_ HO394.out))) (Kd.R_lt (q8524_ HO398.out))) (Kd.R_lt (q8524_ HO402.out))) (below_size (qdb35_ HB.out))); have n9_ := Aside0.mk (below_step (qdb35_ HB.out) hb); clear HO379; clear HO382; clear HO385; clear HO388; clear HO391; clear HO394; clear HO398; clear HO402; clear HB; have HO379 := n0_; have HO382 := n1_; have HO385 := n2_; have HO388 := n3_; have HO391 := n4_; have HO394 := n5_; have HO398 := n6_; have HO402 := n7_; have HO405 := n8_; have HB := n9_; clear n0_ n1_ n2_ n3_ n4_ n5_ n6_ n7_ n8_ n9_; (try clear hb); (try clear hb2); (try clear hk); (try clear hi); (try clear ho0); obtain ⟨Ao51, co51, eo51⟩ := Kd.R_slice HO402.out; subst eo51; obtain ⟨Ao52, co52, eo52⟩ := Kd.R_slice HO405.out; subst eo52) | (go_at_call 12; (with_reducible refine (caravanref1_SameSpans.calls kj2 _ _ t400 _ _ t403 true _ ?side1 ?side2 ?side3 ?side4 A21.out).mono ?_); (case side1 => exact qC_ ((Kd.R_reads' HO402.out).2.2)); (case side2 => exact (Kd.R_reads' HO402.out).2.1); (case side3 => exact qC_ ((Kd.R_reads' HO405.out).2.2)); (case side4 => exact (Kd.R_reads' HO405.out).2.1); rintro e w' ⟨rfl, ⟨nd, rfl⟩⟩) | (go_at_call 27; (with_reducible refine (spans_Both.calls _ _ t386 _ _ t380 t407 _ ?side1 ?side2 ?side3 ?side4 A23.out).mono ?_); (case side1 => exact qC_ ((Kd.R_reads' HO388.out).2.2)); (case side2 => exact (Kd.R_reads' HO388.out).2.1); (case side3 => exact qC_ ((Kd.R_reads' HO382.out).2.2)); (case side4 => exact (Kd.R_reads' HO382.out).2.1); rintro e w53 ⟨v408, rfl, ho0, hb⟩; have n0_ := Aside0.mk (Kd.R_elder' (q8524_ HO379.out) (Kd.R_base ho0) hb); have n1_ := Aside0.mk (Kd.R_elder' (q8524_ HO382.out) (Kd.R_base ho0) hb); have n2_ := Aside0.mk (Kd.R_elder' (q8524_ HO385.out) (Kd.R_base ho0) hb); have n3_ := Aside0.mk (Kd.R_elder' (q8524_ HO388.out) (Kd.R_base ho0) hb); have n4_ := Aside0.mk (Kd.R_elder' (q8524_ HO391.out) (Kd.R_base ho0) hb); have n5_ := Aside0.mk (Kd.R_elder' (q8524_ HO394.out) (Kd.R_base ho0) hb); have n6_ := Aside0.mk (Kd.R_elder' (q8524_ HO398.out) (Kd.R_base ho0) hb); have n7_ := Aside0.mk (Kd.R_elder' (q8524_ HO402.out) (Kd.R_base ho0) hb); have n8_ := Aside0.mk (Kd.R_elder' (q8524_ HO405.out) (Kd.R_base ho0) hb); have n9_ := Aside0.mk (Kd.R_lower (Kd.R_new' (Kd.R_new' (Kd.R_new' (Kd.R_new' (Kd.R_new' (Kd.R_new' (Kd.R_new' (Kd.R_new' (Kd.R_new' ho0 (Kd.R_lt (q8524_ HO379.out))) (Kd.R_lt (q8524_ HO382.out))) (Kd.R_lt (q8524_ HO385.out))) (Kd.R_lt (q8524_ HO388.out))) (Kd.R_lt (q8524_ HO391.out))) (Kd.R_lt (q8524_ HO394.out))) (Kd.R_lt (q8524_ HO398.out))) (Kd.R_lt (q8524_ HO402.out))) (Kd.R_lt (q8524_ HO405.out))) (below_size (qdb35_ HB.out))); have n10_ := Aside0.mk (below_step (qdb35_ HB.out) hb); clear HO379; clear HO382; clear HO385; clear HO388; clear HO391; clear HO394; clear HO398; clear HO402; clear HO405; clear HB; have HO379 := n0_; have HO382 := n1_; have HO385 := n2_; have HO388 := n3_; have HO391 := n4_; have HO394 := n5_; have HO398 := n6_; have HO402 := n7_; have HO405 := n8_; have HO409 := n9_; have HB := n10_; clear n0_ n1_ n2_ n3_ n4_ n5_ n6_ n7_ n8_ n9_ n10_; (try clear hb); (try clear hb2); (try clear hk); (try clear hi); (try clear ho0); obtain ⟨Ao54, co54, eo54⟩ := Kd.R_slice HO409.out; subst eo54) | (go_at_call 20; (with_reducible refine (spans_Count.calls kj2 _ _ t383 t410 _ ?side1 ?side2 A25.out).mono ?_); (case side1 => exact qC_ ((Kd.R_reads' HO385.out).2.2)); (case side2 => exact (Kd.R_reads' HO385.out).2.1); rintro e w55 ⟨rfl, hb⟩; have n0_ := Aside0.mk (Kd.R_below (q8524_ HO379.out) hb); have n1_ := Aside0.mk (Kd.R_below (q8524_ HO382.out) hb); have n2_ := Aside0.mk (Kd.R_below (q8524_ HO385.out) hb); have n3_ := Aside0.mk (Kd.R_below (q8524_ HO388.out) hb); have n4_ := Aside0.mk (Kd.R_below (q8524_ HO391.out) hb); have n5_ := Aside0.mk (Kd.R_below (q8524_ HO394.out) hb); have n6_ := Aside0.mk (Kd.R_below (q8524_ HO398.out) hb); have n7_ := Aside0.mk (Kd.R_below (q8524_ HO402.out) hb); have n8_ := Aside0.mk (Kd.R_below (q8524_ HO405.out) hb); have n9_ := Aside0.mk (Kd.R_below (q8524_ HO409.out) hb); have n10_ := Aside0.mk (below_step (qdb35_ HB.out) hb); clear HO379; clear HO382; clear HO385; clear HO388; clear HO391; clear HO394; clear HO398; clear HO402; clear HO405; clear HO409; clear HB; have HO379 := n0_; have HO382 := n1_; have HO385 := n2_; have HO388 := n3_; have HO391 := n4_; have HO394 := n5_; have HO398 := n6_; have HO402 := n7_; have HO405 := n8_; have HO409 := n9_; have HB := n10_; clear n0_ n1_ n2_ n3_ n4_ n5_ n6_ n7_ n8_ n9_ n10_; (try clear hb); (try clear hb2); (try clear hk); (try clear hi)) | (go_at_call 20; (with_reducible refine (spans_Count.calls kj2 _ _ t377 t411 _ ?side1 ?side2 A26.out).mono ?_); (case side1 => exact qC_ ((Kd.R_reads' HO379.out).2.2)); (case side2 => exact (Kd.R_reads' HO379.out).2.1); rintro e w56 ⟨rfl, hb⟩; have n0_ := Aside0.mk (Kd.R_below (q8524_ HO379.out) hb); have n1_ := Aside0.mk (Kd.R_below (q8524_ HO382.out) hb); have n2_ := Aside0.mk (Kd.R_below (q8524_ HO385.out) hb); have n3_ := Aside0.mk (Kd.R_below (q8524_ HO388.out) hb); have n4_ := Aside0.mk (Kd.R_below (q8524_ HO391.out) hb); have n5_ := Aside0.mk (Kd.R_below (q8524_ HO394.out) hb); have n6_ := Aside0.mk (Kd.R_below (q8524_ HO398.out) hb); have n7_ := Aside0.mk (Kd.R_below (q8524_ HO402.out) hb); have n8_ := Aside0.mk (Kd.R_below (q8524_ HO405.out) hb); have n9_ := Aside0.mk (Kd.R_below (q8524_ HO409.out) hb); have n10_ := Aside0.mk (below_step (qdb35_ HB.out) hb); clear HO379; clear HO382; clear HO385; clear HO388; clear HO391; clear HO394; clear HO398; clear HO402; clear HO405; clear HO409; clear HB; have HO379 := n0_; have HO382 := n1_; have HO385 := n2_; have HO388 := n3_; have HO391 := n4_; have HO394 := n5_; have HO398 := n6_; have HO402 := n7_; have HO405 := n8_; have HO409 := n9_; have HB := n10_; clear n0_ n1_ n2_ n3_ n4_ n5_ n6_ n7_ n8_ n9_ n10_; (try clear hb); (try clear hb2); (try clear hk); (try clear hi)) | (go_at_call 20; (with_reducible refine (spans_Count.calls kj2 _ _ t380 t412 _ ?side1 ?side2 A27.out).mono ?_); (case side1 => exact qC_ ((Kd.R_reads' HO382.out).2.2)); (case side2 => exact (Kd.R_reads' HO382.out).2.1); rintro e w57 ⟨rfl, hb⟩; have n0_ := Aside0.mk (Kd.R_below (q8524_ HO379.out) hb); have n1_ := Aside0.mk (Kd.R_below (q8524_ HO382.out) hb); have n2_ := Aside0.mk (Kd.R_below (q8524_ HO385.out) hb); have n3_ := Aside0.mk (Kd.R_below (q8524_ HO388.out) hb); have n4_ := Aside0.mk (Kd.R_below (q8524_ HO391.out) hb); have n5_ := Aside0.mk (Kd.R_below (q8524_ HO394.out) hb); have n6_ := Aside0.mk (Kd.R_below (q8524_ HO398.out) hb); have n7_ := Aside0.mk (Kd.R_below (q8524_ HO402.out) hb); have n8_ := Aside0.mk (Kd.R_below (q8524_ HO405.out) hb); have n9_ := Aside0.mk (Kd.R_below (q8524_ HO409.out) hb); have n10_ := Aside0.mk (below_step (qdb35_ HB.out) hb); clear HO379; clear HO382; clear HO385; clear HO388; clear HO391; clear HO394; clear HO398; clear HO402; clear HO405; clear HO409; clear HB; have HO379 := n0_; have HO382 := n1_; have HO385 := n2_; have HO388 := n3_; have HO391 := n4_; have HO394 := n5_; have HO398 := n6_; have HO402 := n7_; have HO405 := n8_; have HO409 := n9_; have HB := n10_; clear n0_ n1_ n2_ n3_ n4_ n5_ n6_ n7_ n8_ n9_ n10_; (try clear hb); (try clear hb2); (try clear hk); (try clear hi)) | (go_at_call 20; (with_reducible refine (spans_Count.calls kj2 _ _ t389 t413 _ ?side1 ?side2 A28.out).mono ?_); (case side1 => exact qC_ ((Kd.R_reads' HO391.out).2.2)); (case side2 => exact (Kd.R_reads' HO391.out).2.1); rintro e w58 ⟨rfl, hb⟩; have n0_ := Aside0.mk (Kd.R_below (q8524_ HO379.out) hb); have n1_ := Aside0.mk (Kd.R_below (q8524_ HO382.out) hb); have n2_ := Aside0.mk (Kd.R_below (q8524_ HO385.out) hb); have n3_ := Aside0.mk (Kd.R_below (q8524_ HO388.out) hb); have n4_ := Aside0.mk (Kd.R_below (q8524_ HO391.out) hb); have n5_ := Aside0.mk (Kd.R_below (q8524_ HO394.out) hb); have n6_ := Aside0.mk (Kd.R_below (q8524_ HO398.out) hb); have n7_ := Aside0.mk (Kd.R_below (q8524_ HO402.out) hb); have n8_ := Aside0.mk (Kd.R_below (q8524_ HO405.out) hb); have n9_ := Aside0.mk (Kd.R_below (q8524_ HO409.out) hb); have n10_ := Aside0.mk (below_step (qdb35_ HB.out) hb); clear HO379; clear HO382; clear HO385; clear HO388; clear HO391; clear HO394; clear HO398; clear HO402; clear HO405; clear HO409; clear HB; have HO379 := n0_; have HO382 := n1_; have HO385 := n2_; have HO388 := n3_; have HO391 := n4_; have HO394 := n5_; have HO398 := n6_; have HO402 := n7_; have HO405 := n8_; have HO409 := n9_; have HB := n10_; clear n0_ n1_ n2_ n3_ n4_ n5_ n6_ n7_ n8_ n9_ n10_; (try clear hb); (try clear hb2); (try clear hk); (try clear hi)) | (go_at_call 20; (with_reducible refine (spans_Count.calls kj2 _ _ t386 t414 _ ?side1 ?side2 A30.out).mono ?_); (case side1 => exact qC_ ((Kd.R_reads' HO388.out).2.2)); (case side2 => exact (Kd.R_reads' HO388.out).2.1); rintro e w59 ⟨rfl, hb⟩; have n0_ := Aside0.mk (Kd.R_below (q8524_ HO379.out) hb); have n1_ := Aside0.mk (Kd.R_below (q8524_ HO382.out) hb); have n2_ := Aside0.mk (Kd.R_below (q8524_ HO385.out) hb); have n3_ := Aside0.mk (Kd.R_below (q8524_ HO388.out) hb); have n4_ := Aside0.mk (Kd.R_below (q8524_ HO391.out) hb); have n5_ := Aside0.mk (Kd.R_below (q8524_ HO394.out) hb); have n6_ := Aside0.mk (Kd.R_below (q8524_ HO398.out) hb); have n7_ := Aside0.mk (Kd.R_below (q8524_ HO402.out) hb); have n8_ := Aside0.mk (Kd.R_below (q8524_ HO405.out) hb); have n9_ := Aside0.mk (Kd.R_below (q8524_ HO409.out) hb); have n10_ := Aside0.mk (below_step (qdb35_ HB.out) hb); clear HO379; clear HO382; clear HO385; clear HO388; clear HO391; clear HO394; clear HO398; clear HO402; clear HO405; clear HO409; clear HB; have HO379 := n0_; have HO382 := n1_; have HO385 := n2_; have HO388 := n3_; have HO391 := n4_; have HO394 := n5_; have HO398 := n6_; have HO402 := n7_; have HO405 := n8_; have HO409 := n9_; have HB := n10_; clear n0_ n1_ n2_ n3_ n4_ n5_ n6_ n7_ n8_ n9_ n10_; (try clear hb); (try clear hb2); (try clear hk); (try clear hi)) | (go_at_call 20; (with_reducible refine (spans_Count.calls kj2 _ _ t377 t411 _ ?side1 ?side2 A31.out).mono ?_); (case side1 => exact qC_ ((Kd.R_reads' HO379.out).2.2)); (case side2 => exact (Kd.R_reads' HO379.out).2.1); rintro e w60 ⟨rfl, hb⟩; have n0_ := Aside0.mk (Kd.R_below (q8524_ HO379.out) hb); have n1_ := Aside0.mk (Kd.R_below (q8524_ HO382.out) hb); have n2_ := Aside0.mk (Kd.R_below (q8524_ HO385.out) hb); have n3_ := Aside0.mk (Kd.R_below (q8524_ HO388.out) hb); have n4_ := Aside0.mk (Kd.R_below (q8524_ HO391.out) hb); have n5_ := Aside0.mk (Kd.R_below (q8524_ HO394.out) hb); have n6_ := Aside0.mk (Kd.R_below (q8524_ HO398.out) hb); have n7_ := Aside0.mk (Kd.R_below (q8524_ HO402.out) hb); have n8_ := Aside0.mk (Kd.R_below (q8524_ HO405.out) hb); have n9_ := Aside0.mk (Kd.R_below (q8524_ HO409.out) hb); have n10_ := Aside0.mk (below_step (qdb35_ HB.out) hb); clear HO379; clear HO382; clear HO385; clear HO388; clear HO391; clear HO394; clear HO398; clear HO402; clear HO405; clear HO409; clear HB; have HO379 := n0_; have HO382 := n1_; have HO385 := n2_; have HO388 := n3_; have HO391 := n4_; have HO394 := n5_; have HO398 := n6_; have HO402 := n7_; have HO405 := n8_; have HO409 := n9_; have HB := n10_; clear n0_ n1_ n2_ n3_ n4_ n5_ n6_ n7_ n8_ n9_ n10_; (try clear hb); (try clear hb2); (try clear hk); (try clear hi)) | (go_at_call 20; (with_reducible refine (spans_Count.calls kj2 _ _ t389 t413 _ ?side1 ?side2 A32.out).mono ?_); (case side1 => exact qC_ ((Kd.R_reads' HO391.out).2.2)); (case side2 => exact (Kd.R_reads' HO391.out).2.1); rintro e w61 ⟨rfl, hb⟩; have n0_ := Aside0.mk (Kd.R_below (q8524_ HO379.out) hb); have n1_ := Aside0.mk (Kd.R_below (q8524_ HO382.out) hb); have n2_ := Aside0.mk (Kd.R_below (q8524_ HO385.out) hb); have n3_ := Aside0.mk (Kd.R_below (q8524_ HO388.out) hb); have n4_ := Aside0.mk (Kd.R_below (q8524_ HO391.out) hb); have n5_ := Aside0.mk (Kd.R_below (q8524_ HO394.out) hb); have n6_ := Aside0.mk (Kd.R_below (q8524_ HO398.out) hb); have n7_ := Aside0.mk (Kd.R_below (q8524_ HO402.out) hb); have n8_ := Aside0.mk (Kd.R_below (q8524_ HO405.out) hb); have n9_ := Aside0.mk (Kd.R_below (q8524_ HO409.out) hb); have n10_ := Aside0.mk (below_step (qdb35_ HB.out) hb); clear HO379; clear HO382; clear HO385; clear HO388; clear HO391; clear HO394; clear HO398; clear HO402; clear HO405; clear HO409; clear HB; have HO379 := n0_; have HO382 := n1_; have HO385 := n2_; have HO388 := n3_; have HO391 := n4_; have HO394 := n5_; have HO398 := n6_; have HO402 := n7_; have HO405 := n8_; have HO409 := n9_; have HB := n10_; clear n0_ n1_ n2_ n3_ n4_ n5_ n6_ n7_ n8_ n9_ n10_; (try clear hb); (try clear hb2); (try clear hk); (try clear hi)) | (go_at_call 9; (with_reducible refine (caravanlaw2_awake.calls kj2  t417 _ A34.out (Wd.of hWd_ (qdb35_ HB.out))).mono ?_); rintro e w62 ⟨rfl, hb⟩; have n0_ := Aside0.mk (Kd.R_below (q8524_ HO379.out) hb); have n1_ := Aside0.mk (Kd.R_below (q8524_ HO382.out) hb); have n2_ := Aside0.mk (Kd.R_below (q8524_ HO385.out) hb); have n3_ := Aside0.mk (Kd.R_below (q8524_ HO388.out) hb); have n4_ := Aside0.mk (Kd.R_below (q8524_ HO391.out) hb); have n5_ := Aside0.mk (Kd.R_below (q8524_ HO394.out) hb); have n6_ := Aside0.mk (Kd.R_below (q8524_ HO398.out) hb); have n7_ := Aside0.mk (Kd.R_below (q8524_ HO402.out) hb); have n8_ := Aside0.mk (Kd.R_below (q8524_ HO405.out) hb); have n9_ := Aside0.mk (Kd.R_below (q8524_ HO409.out) hb); have n10_ := Aside0.mk (below_step (qdb35_ HB.out) hb); clear HO379; clear HO382; clear HO385; clear HO388; clear HO391; clear HO394; clear HO398; clear HO402; clear HO405; clear HO409; clear HB; have HO379 := n0_; have HO382 := n1_; have HO385 := n2_; have HO388 := n3_; have HO391 := n4_; have HO394 := n5_; have HO398 := n6_; have HO402 := n7_; have HO405 := n8_; have HO409 := n9_; have HB := n10_; clear n0_ n1_ n2_ n3_ n4_ n5_ n6_ n7_ n8_ n9_ n10_; (try clear hb); (try clear hb2); (try clear hk); (try clear hi)))
          go_ret
          exact ⟨by first | rfl | (simp [errW_none, errW_some] <;> rfl) | (simp [*, errW_none, errW_some] <;> rfl), (qdb35_ HB.out)⟩
         ·rw [if_neg c33] at H
          have c33b0 : (t414 == (wrap64 (t411 - t413))) = false := beq_eq_false_iff_ne.mpr c33
          have c33b1 : (t414 != (wrap64 (t411 - t413))) = true := bne_iff_ne.mpr c33
          subst hrt_; exact absurd H (by simp)
        ·rw [if_neg c29] at H
         have c29b0 : (t410 == (wrap64 ((wrap64 (t411 + t412)) - t413))) = false := beq_eq_false_iff_ne.mpr c29
         have c29b1 : (t410 != (wrap64 ((wrap64 (t411 + t412)) - t413))) = true := bne_iff_ne.mpr c29
         subst hrt_; exact absurd H (by simp)
       ·rw [if_neg c24] at H
        have c24b0 : ((t407.length : Int) == 0) = false := beq_eq_false_iff_ne.mpr c24
        have c24b1 : ((t407.length : Int) != 0) = true := bne_iff_ne.mpr c24
        have c24b2 : ¬ (t407 = []) := fun h_ => c24 (by rw [h_]; rfl)
        subst hrt_; exact absurd H (by simp)
      ·replace c22 := Bool.eq_false_iff.mpr c22
       subst c22
       have H1 : (some false) = some r := by rw [if_neg (show ¬ (false = true) by decide)] at H; exact H
       clear H
       have H := H1
       clear H1
       subst hrt_; exact absurd H (by simp)
     ·replace c18 := Bool.eq_false_iff.mpr c18
      subst c18
      have H1 : (some false) = some r := by rw [if_neg (show ¬ (false = true) by decide)] at H; exact H
      clear H
      have H := H1
      clear H1
      subst hrt_; exact absurd H (by simp)
    ·replace c15 := Bool.eq_false_iff.mpr c15
     subst c15
     have H1 : (some false) = some r := by rw [if_neg (show ¬ (false = true) by decide)] at H; exact H
     clear H
     have H := H1
     clear H1
     subst hrt_; exact absurd H (by simp)

/-- THE ONE PURE STATEMENT of caravanlaw2_SpansLaws: yours. -/
def caravanlaw2_SpansLaws.Pure : Prop := ∀ (l0 : List Int) (l1 : List Int), l0.length ≤ maxLen → l0.length * 2 ≤ 140737488351232 → (∀ x ∈ l0, (Lit.int .u16 x).wf = true) → l1.length ≤ maxLen → l1.length * 2 ≤ 140737488351232 → (∀ x ∈ l1, (Lit.int .u16 x).wf = true) → ∃ k, caravanlaw2_SpansLaws.f k l0 l1 = some true
theorem caravanlaw2_SpansLaws.walk (P : caravanlaw2_SpansLaws.Pure) (a0 : Option Addr) (len0 cap0 : Nat) (z0 : List Int) (a1 : Option Addr) (len1 cap1 : Nat) (z1 : List Int) (w : World) (hWd_ : Wd w) (w0 : (a0 = none ∧ len0 = 0 ∧ cap0 = 0 ∧ z0 = []) ∨ ∃ x, a0 = some x ∧ len0 ≤ cap0 ∧ cap0 ≤ maxLen ∧ z0.length = cap0 ∧ (∀ i, i < z0.length → w.cell? (x.add i) = some (.int .u16 (z0.getD i 0))) ∧ ∀ n ∈ z0, (Lit.int .u16 n).wf = true) (y0 : len0 * 2 ≤ 140737488351232) (w1 : (a1 = none ∧ len1 = 0 ∧ cap1 = 0 ∧ z1 = []) ∨ ∃ x, a1 = some x ∧ len1 ≤ cap1 ∧ cap1 ≤ maxLen ∧ z1.length = cap1 ∧ (∀ i, i < z1.length → w.cell? (x.add i) = some (.int .u16 (z1.getD i 0))) ∧ ∀ n ∈ z1, (Lit.int .u16 n).wf = true) (y1 : len1 * 2 ≤ 140737488351232) :
 Calls Tryd.prog 8 #[.slice a0 len0 cap0, .slice a1 len1 cap1] w fun e w' => e = .returned (.bool true) ∧ Below w.heap.size w w' := by
 obtain ⟨l0, rfl, hr0, hm0, hw0, hc0⟩ := ReadsInt.ofRowC w0
 obtain ⟨l1, rfl, hr1, hm1, hw1, hc1⟩ := ReadsInt.ofRowC w1
 obtain ⟨k, h⟩ := P l0 l1 hm0 y0 hw0 hm1 y1 hw1
 refine (caravanlaw2_SpansLaws.calls k _ _ l0 _ _ l1 true w (Kd.C_of_reads (d := (0 : Int)) (h1 := fun _ => rfl) hr0) hc0 (Kd.C_of_reads (d := (0 : Int)) (h1 := fun _ => rfl) hr1) hc1 h rfl hWd_).mono ?_
 rintro e w' ⟨rfl, hd⟩
 exact ⟨rfl, hd⟩

end Go.Proofs.YtnlakdpfkgjdaaaDoor.G

/- Lists of marks, and what is told between them: the plain law of the reference's Mix. No conditions. -/
namespace Go.Proofs.YtnlakdpfkgjdaaaDoor.G
open Go.RowKit Go.Proofs.YtnlakdpfkgjdaaaDoorW.PrintWords Go.Proofs.YtnlakdpfkgjdaaaDoorW.PrintLast Go.Proofs.YtnlakdpfkgjdaaaDoorW.PrintMore
/-- one stretch more, from m to before m' -/
def addM (out : List S31) (m m' : Int) : List S31 :=
  match out.getLast? with
  | none => [⟨m, m' - 1⟩]
  | some t => if t.f1 = m - 1 then out.dropLast ++ [⟨t.f0, m' - 1⟩] else out ++ [⟨m, m' - 1⟩]
def mixL (p : Int → Bool) : List Int → List S31 → List S31
  | m :: m' :: r, out => mixL p (m' :: r) (if p m = true then addM out m m' else out)
  | _, out => out
/-- rising, to the last of all -/
def riseM : Int → List Int → Prop
  | m, [] => m = 16384
  | m, m' :: r => m < m' ∧ m' ≤ 16384 ∧ riseM m' r
/-- between two marks nothing changes -/
def flatM (p : Int → Bool) : Int → List Int → Prop
  | _, [] => True
  | m, m' :: r => (∀ n, m ≤ n → n < m' → p n = p m) ∧ flatM p m' r
theorem addM_spec {out : List S31} {m m' : Int} (hm : mayS out) (hl : ∀ n, hasS out n = true → n < m) (h0 : 0 ≤ m) (h1 : m < m') (h2 : m' ≤ 16384) :
    mayS (addM out m m') ∧ ∀ n, hasS (addM out m m') n = (hasS out n || (decide (m ≤ n) && decide (n < m'))) := by
  have hd : ∀ n, (decide (m ≤ n) && decide (n ≤ m' - 1)) = (decide (m ≤ n) && decide (n < m')) := fun n => by
    congr 1; exact decide_eq_decide.2 (by omega)
  unfold addM
  rcases List.eq_nil_or_concat out with rfl | ⟨q, t, rfl⟩
  · refine ⟨⟨by show -1 < m; omega, by show m ≤ m' - 1; omega, by show m' - 1 ≤ 16383; omega, trivial⟩, fun n => ?_⟩
    show ((decide (m ≤ n) && decide (n ≤ m' - 1)) || false) = _
    rw [hd, Bool.or_false]; rfl
  · rw [List.concat_eq_append] at hm hl ⊢
    obtain ⟨m1, m2, m3, m4⟩ := mayF_app.1 hm
    have ht : t.f1 < m := hl t.f1 ((hasS_iff _ _).2 ⟨t, by simp, m3, Int.le_refl _⟩)
    rw [show (q ++ [t]).getLast? = some t by simp]
    dsimp only
    by_cases c : t.f1 = m - 1
    · rw [if_pos c, List.dropLast_concat]
      refine ⟨mayF_app.2 ⟨m1, m2, by show t.f0 ≤ m' - 1; omega, by show m' - 1 ≤ 16383; omega⟩, fun n => ?_⟩
      rw [hasS_app, hasS_app]
      show (hasS q n || ((decide (t.f0 ≤ n) && decide (n ≤ m' - 1)) || false)) = ((hasS q n || ((decide (t.f0 ≤ n) && decide (n ≤ t.f1)) || false)) || _)
      rw [Bool.or_false, Bool.or_false, Bool.or_assoc]
      congr 1
      rw [Bool.eq_iff_iff]
      simp only [Bool.or_eq_true, Bool.and_eq_true, decide_eq_true_eq]
      omega
    · rw [if_neg c]
      refine ⟨mayF_app.2 ⟨hm, by rw [endS_app]; show t.f1 + 1 < m; omega, by show m ≤ m' - 1; omega, by show m' - 1 ≤ 16383; omega⟩, fun n => ?_⟩
      rw [hasS_app (q ++ [t])]
      show (_ || ((decide (m ≤ n) && decide (n ≤ m' - 1)) || false)) = _
      rw [hd, Bool.or_false]
theorem mix_spec (p : Int → Bool) : ∀ (r : List Int) (m : Int) (out : List S31), 0 ≤ m → riseM m r → flatM p m r → mayS out → (∀ n, hasS out n = (decide (0 ≤ n) && decide (n < m) && p n)) →
    mayS (mixL p (m :: r) out) ∧ ∀ n, hasS (mixL p (m :: r) out) n = (decide (0 ≤ n) && decide (n < 16384) && p n)
  | [], m, out, _, hr, _, hm, hh => by
    obtain rfl : m = 16384 := hr
    exact ⟨hm, hh⟩
  | m' :: r, m, out, h0, ⟨h1, h2, h3⟩, ⟨g1, g2⟩, hm, hh => by
    rw [mixL]
    have hl : ∀ n, hasS out n = true → n < m := fun n h => by
      rw [hh] at h
      simp only [Bool.and_eq_true, decide_eq_true_eq] at h
      exact h.1.2
    have step : ∀ n, ((decide (0 ≤ n) && decide (n < m) && p n) || (decide (m ≤ n) && decide (n < m') && p m)) = (decide (0 ≤ n) && decide (n < m') && p n) := by
      intro n
      by_cases c : m ≤ n ∧ n < m'
      · rw [g1 n c.1 c.2, decide_eq_true c.1, decide_eq_true c.2, decide_eq_true (show 0 ≤ n by omega), decide_eq_false (show ¬ n < m by omega)]
        simp
      · have e : (decide (m ≤ n) && decide (n < m')) = false := by
          rw [Bool.and_eq_false_iff, decide_eq_false_iff_not, decide_eq_false_iff_not]; omega
        rw [e, Bool.false_and, Bool.or_false]
        by_cases c2 : n < m
        · rw [decide_eq_true c2, decide_eq_true (show n < m' by omega)]
        · rw [decide_eq_false c2, decide_eq_false (show ¬ n < m' by omega)]
    by_cases hp : p m = true
    · rw [if_pos hp]
      obtain ⟨a1, a2⟩ := addM_spec hm hl h0 h1 h2
      refine mix_spec p r m' _ (by omega) h3 g2 a1 fun n => ?_
      rw [a2, hh, ← step n, hp, Bool.and_true]
    · rw [if_neg hp]
      refine mix_spec p r m' _ (by omega) h3 g2 hm fun n => ?_
      rw [hh, ← step n, show p m = false by simpa using hp, Bool.and_false, Bool.or_false]
end Go.Proofs.YtnlakdpfkgjdaaaDoor.G

/- The reference's marks: what Mark and marks come to. Conditions: bounds on lengths. -/
namespace Go.Proofs.YtnlakdpfkgjdaaaDoor.G
open Go.RowKit Go.Cav Go.Proofs.YtnlakdpfkgjdaaaDoorW.PrintWords Go.Proofs.YtnlakdpfkgjdaaaDoorW.PrintLast Go.Proofs.YtnlakdpfkgjdaaaDoorW.PrintMore
/-- strictly rising -/
def upM : List Int → Prop
  | [] => True
  | [_] => True
  | a :: b :: r => a < b ∧ upM (b :: r)
theorem upM_tail {a : Int} {r : List Int} (h : upM (a :: r)) : upM r := by
  cases r with
  | nil => trivial
  | cons b r => exact h.2
theorem upM_lt : ∀ {r : List Int} {a : Int}, upM (a :: r) → ∀ x ∈ r, a < x
  | b :: r, a, h, x, hx => by
    rcases List.mem_cons.1 hx with rfl | hx
    · exact h.1
    · have := upM_lt h.2 x hx; have := h.1; omega
/-- a mark more, where it may be -/
def insM (x : Int) : List Int → List Int
  | [] => [x]
  | a :: r => if a < x then a :: insM x r else if a = x then a :: r else x :: a :: r
def markL (l : List Int) (x : Int) : List Int := if x < 0 ∨ x > 16384 then l else insM x l
theorem insM_mem (x y : Int) : ∀ l, y ∈ insM x l ↔ y = x ∨ y ∈ l
  | [] => by simp [insM]
  | a :: r => by
    unfold insM
    split
    · rw [List.mem_cons, insM_mem x y r, List.mem_cons]; constructor <;> rintro (h | h | h) <;> simp [h]
    · split
      · rename_i h; subst h; simp
      · simp
theorem insM_up (x : Int) : ∀ l, upM l → upM (insM x l)
  | [], _ => trivial
  | a :: r, h => by
    unfold insM
    split
    · rename_i hx
      have ih := insM_up x r (upM_tail h)
      cases hr : insM x r with
      | nil => trivial
      | cons b t =>
        rw [hr] at ih
        refine ⟨?_, ih⟩
        have hb : b ∈ insM x r := by rw [hr]; simp
        rcases (insM_mem x b r).1 hb with e | e
        · omega
        · exact upM_lt h b e
    · split
      · exact h
      · exact ⟨by omega, h⟩
theorem insM_len (x : Int) : ∀ l, (insM x l).length ≤ l.length + 1
  | [] => by simp [insM]
  | a :: r => by
    have := insM_len x r
    unfold insM
    split
    · simp; omega
    · split <;> simp
/-- .. by the place where it stands -/
theorem insM_at (x : Int) : ∀ (l : List Int) (i : Nat), upM l → i ≤ l.length → (∀ y ∈ l.take i, y < x) → (∀ y ∈ l.drop i, x ≤ y) → insM x l = if l[i]? = some x then l else l.take i ++ x :: l.drop i
  | [], i, _, hi, _, _ => by
    obtain rfl : i = 0 := by simpa using hi
    rfl
  | a :: r, 0, h, _, _, h2 => by
    have := h2 a (by simp)
    unfold insM
    rw [if_neg (by omega)]
    simp
  | a :: r, i + 1, h, hi, h1, h2 => by
    have ha := h1 a (by simp)
    have ih := insM_at x r i (upM_tail h) (by simpa using hi) (fun y hy => h1 y (by simp [hy])) (fun y hy => h2 y (by simpa using hy))
    unfold insM
    rw [if_pos ha, ih]
    simp only [List.getElem?_cons_succ, List.take_succ_cons, List.drop_succ_cons]
    split <;> rfl
def tailE (l : List Int) (x i : Int) : Option (List Int) :=
  if x < 0 then some l else if x > 16384 then some l else if i < (l.length : Int) then (if 0 ≤ i then (if rd l i = x then some l else (if i ≤ (l.length : Int) then (if ([] : List Int).length + (l.take i.toNat).length < 17592186044416 then (if ([] ++ l.take i.toNat : List Int).length < 17592186044416 then (if (([] ++ l.take i.toNat) ++ [x] : List Int).length + (l.drop i.toNat).length < 17592186044416 then some ((([] ++ l.take i.toNat) ++ [x]) ++ l.drop i.toNat) else none) else none) else none) else none)) else none)
  else (if 0 ≤ i then (if i ≤ (l.length : Int) then (if ([] : List Int).length + (l.take i.toNat).length < 17592186044416 then (if ([] ++ l.take i.toNat : List Int).length < 17592186044416 then (if (([] ++ l.take i.toNat) ++ [x] : List Int).length + (l.drop i.toNat).length < 17592186044416 then some ((([] ++ l.take i.toNat) ++ [x]) ++ l.drop i.toNat) else none) else none) else none) else none) else none)
theorem tail_ok (l : List Int) (x : Int) (hu : upM l) (hl : l.length ≤ 1000000000) (i : Nat) (hi : i ≤ l.length) (h1 : ∀ y ∈ l.take i, y < x) (h2 : ∀ y ∈ l.drop i, x ≤ y) : tailE l x (i : Int) = some (markL l x) := by
  unfold tailE markL
  by_cases c : x < 0
  · rw [if_pos c, if_pos (.inl c)]
  · rw [if_neg c]
    by_cases d : x > 16384
    · rw [if_pos d, if_pos (.inr d)]
    · rw [if_neg d, if_neg (show ¬ (x < 0 ∨ x > 16384) by omega), insM_at x l i hu hi h1 h2, Int.toNat_natCast]
      have s1 : ([] : List Int).length + (l.take i).length < 17592186044416 := by rw [List.length_take, List.length_nil]; omega
      have s2 : ([] ++ l.take i : List Int).length < 17592186044416 := by rw [List.nil_append, List.length_take]; omega
      have s3 : (([] ++ l.take i) ++ [x] : List Int).length + (l.drop i).length < 17592186044416 := by rw [List.nil_append, List.length_append, List.length_take, List.length_drop, List.length_singleton]; omega
      have e : (([] ++ l.take i) ++ [x]) ++ l.drop i = l.take i ++ x :: l.drop i := by simp
      by_cases f : i < l.length
      · rw [if_pos (show (i : Int) < (l.length : Int) by omega), if_pos (show (0 : Int) ≤ i by omega)]
        have er : rd l (i : Int) = l[i] := by unfold rd; rw [Int.toNat_natCast, List.getD_eq_getElem?_getD, List.getElem?_eq_getElem f]; rfl
        rw [er, List.getElem?_eq_getElem f]
        by_cases g : l[i] = x
        · rw [if_pos g, if_pos (by rw [g])]
        · rw [if_neg g, if_neg (fun h => g (Option.some.inj h)), if_pos (show (i : Int) ≤ (l.length : Int) by omega), if_pos s1, if_pos s2, if_pos s3, e]
      · rw [if_neg (show ¬ (i : Int) < (l.length : Int) by omega), if_pos (show (0 : Int) ≤ i by omega), if_pos (show (i : Int) ≤ (l.length : Int) by omega), if_pos s1, if_pos s2, if_pos s3, e, if_neg]
        rw [List.getElem?_eq_none (by omega)]; simp
theorem mark_loop (l : List Int) (x : Int) (hu : upM l) (hl : l.length ≤ 1000000000) : ∀ (i k : Nat), i ≤ l.length → (∀ y ∈ l.drop i, x ≤ y) → caravanref1_Mark.l0 (k + i + 1) l x (i : Int) = some (markL l x)
  | 0, k, hi, h2 => by
    rw [caravanref1_Mark.l0, if_neg (by omega)]
    exact tail_ok l x hu hl 0 hi (by simp) h2
  | i + 1, k, hi, h2 => by
    have hlt : i < l.length := by omega
    have ew : wrap64 (((i + 1 : Nat) : Int) - 1) = (i : Int) := by rw [w64 _ (by omega) (by omega)]; omega
    have er : rd l (i : Int) = l[i] := by unfold rd; rw [Int.toNat_natCast, List.getD_eq_getElem?_getD, List.getElem?_eq_getElem hlt]; rfl
    rw [show k + (i + 1) + 1 = (k + i + 1) + 1 by omega, caravanref1_Mark.l0, if_pos (by omega), ew, if_pos (by omega), if_pos (by omega), er]
    by_cases c : l[i] ≥ x
    · rw [if_pos c]
      refine mark_loop l x hu hl i k (by omega) fun y hy => ?_
      rw [List.drop_eq_getElem_cons hlt] at hy
      rcases List.mem_cons.1 hy with rfl | hy
      · exact c
      · exact h2 y hy
    · rw [if_neg c]
      refine tail_ok l x hu hl (i + 1) hi (fun y hy => ?_) h2
      obtain ⟨j, hj, rfl⟩ := List.getElem_of_mem hy
      rw [List.length_take] at hj
      rw [List.getElem_take]
      have key : ∀ (l : List Int), upM l → ∀ (a b : Nat) (ha : a < l.length) (hb : b < l.length), a ≤ b → l[a] ≤ l[b] := by
        intro l hu
        induction l with
        | nil => intro a b ha; simp at ha
        | cons q l ih =>
          intro a b ha hb hab
          cases a with
          | zero =>
            cases b with
            | zero => simp
            | succ b =>
              have hb' : b < l.length := by simpa using hb
              have := upM_lt hu l[b] (List.getElem_mem hb')
              simp; omega
          | succ a =>
            cases b with
            | zero => omega
            | succ b => simpa using ih (upM_tail hu) a b (by simpa using ha) (by simpa using hb) (by omega)
      have := key l hu j i (by omega) hlt (by omega)
      omega
theorem mark_f (l : List Int) (x : Int) (hu : upM l) (hl : l.length ≤ 1000000000) (k : Nat) (hk : l.length + 1 ≤ k) : caravanref1_Mark.f k l x = some (markL l x) := by
  obtain ⟨d, rfl⟩ : ∃ d, k = d + l.length + 1 := ⟨k - l.length - 1, by omega⟩
  exact mark_loop l x hu hl l.length d (Nat.le_refl _) (by simp)
theorem markL_up {l : List Int} (x : Int) (h : upM l) : upM (markL l x) := by unfold markL; split; exact h; exact insM_up x l h
theorem markL_len (l : List Int) (x : Int) : (markL l x).length ≤ l.length + 1 := by
  unfold markL
  split
  · omega
  · exact insM_len x l
theorem markL_mem (l : List Int) (x y : Int) : y ∈ markL l x ↔ y ∈ l ∨ (y = x ∧ 0 ≤ x ∧ x ≤ 16384) := by
  unfold markL
  split
  · exact ⟨.inl, fun h => h.elim id fun ⟨_, h1, h2⟩ => by omega⟩
  · rw [insM_mem]
    exact ⟨fun h => h.elim (fun e => .inr ⟨e, by omega, by omega⟩) .inl, fun h => h.elim .inr fun h => .inl h.1⟩
end Go.Proofs.YtnlakdpfkgjdaaaDoor.G

/- The reference's marks of lists of spans, and what its Mix says. No conditions. -/
namespace Go.Proofs.YtnlakdpfkgjdaaaDoor.G
open Go.RowKit Go.Cav Go.Proofs.YtnlakdpfkgjdaaaDoorW.PrintWords Go.Proofs.YtnlakdpfkgjdaaaDoorW.PrintLast Go.Proofs.YtnlakdpfkgjdaaaDoorW.PrintMore
/-- the marks of one span more -/
def mark1 (l : List Int) (x : S31) : List Int := if x.f0 ≤ x.f1 then (if x.f1 < 16384 then markL (markL l x.f0) (x.f1 + 1) else markL l x.f0) else l
def marksL (q : List S31) : List Int := q.foldl mark1 [0, 16384]
theorem mark1_up {l : List Int} (x : S31) (h : upM l) : upM (mark1 l x) := by
  unfold mark1
  split
  · split
    · exact markL_up _ (markL_up _ h)
    · exact markL_up _ h
  · exact h
theorem mark1_old {l : List Int} (x : S31) {y : Int} (h : y ∈ l) : y ∈ mark1 l x := by
  unfold mark1
  split
  · split
    · exact (markL_mem _ _ _).2 (.inl ((markL_mem _ _ _).2 (.inl h)))
    · exact (markL_mem _ _ _).2 (.inl h)
  · exact h
theorem mark1_in {l : List Int} (x : S31) (h : ∀ y ∈ l, 0 ≤ y ∧ y ≤ 16384) : ∀ y ∈ mark1 l x, 0 ≤ y ∧ y ≤ 16384 := by
  have key : ∀ (l : List Int) (v : Int), (∀ y ∈ l, 0 ≤ y ∧ y ≤ 16384) → ∀ y ∈ markL l v, 0 ≤ y ∧ y ≤ 16384 := fun l v h y hy => by
    rcases (markL_mem _ _ _).1 hy with e | ⟨rfl, e⟩
    · exact h y e
    · exact e
  unfold mark1
  split
  · split
    · exact key _ _ (key _ _ h)
    · exact key _ _ h
  · exact h
theorem mark1_len (l : List Int) (x : S31) : (mark1 l x).length ≤ l.length + 2 := by
  have a := markL_len l x.f0
  have b := markL_len (markL l x.f0) (x.f1 + 1)
  unfold mark1
  split
  · split <;> omega
  · omega
theorem mark1_new (l : List Int) (x : S31) (h : x.f0 ≤ x.f1) : (0 ≤ x.f0 → x.f0 ≤ 16384 → x.f0 ∈ mark1 l x) ∧ (0 ≤ x.f1 + 1 → x.f1 + 1 ≤ 16384 → x.f1 + 1 ∈ mark1 l x) := by
  unfold mark1
  rw [if_pos h]
  refine ⟨fun a b => ?_, fun a b => ?_⟩
  · split
    · exact (markL_mem _ _ _).2 (.inl ((markL_mem _ _ _).2 (.inr ⟨rfl, a, b⟩)))
    · exact (markL_mem _ _ _).2 (.inr ⟨rfl, a, b⟩)
  · rw [if_pos (by omega)]
    exact (markL_mem _ _ _).2 (.inr ⟨rfl, a, b⟩)
theorem marks_fold : ∀ (q : List S31) (l : List Int), upM l → (∀ y ∈ l, 0 ≤ y ∧ y ≤ 16384) → upM (q.foldl mark1 l) ∧ (∀ y ∈ q.foldl mark1 l, 0 ≤ y ∧ y ≤ 16384) ∧ (∀ y ∈ l, y ∈ q.foldl mark1 l) ∧ (q.foldl mark1 l).length ≤ l.length + 2 * q.length ∧
    ∀ s ∈ q, s.f0 ≤ s.f1 → (0 ≤ s.f0 → s.f0 ≤ 16384 → s.f0 ∈ q.foldl mark1 l) ∧ (0 ≤ s.f1 + 1 → s.f1 + 1 ≤ 16384 → s.f1 + 1 ∈ q.foldl mark1 l)
  | [], l, hu, hi => ⟨hu, hi, fun _ h => h, by simp, fun s h => by cases h⟩
  | x :: q, l, hu, hi => by
    obtain ⟨h1, h2, h3, h4, h5⟩ := marks_fold q (mark1 l x) (mark1_up x hu) (mark1_in x hi)
    rw [List.foldl_cons]
    have hl := mark1_len l x
    refine ⟨h1, h2, fun y hy => h3 y (mark1_old x hy), by rw [List.length_cons]; omega, fun s hs hle => ?_⟩
    rcases List.mem_cons.1 hs with rfl | hs
    · obtain ⟨a, b⟩ := mark1_new l s hle
      exact ⟨fun u v => h3 _ (a u v), fun u v => h3 _ (b u v)⟩
    · exact h5 s hs hle
theorem marks_spec (q : List S31) : upM (marksL q) ∧ (∀ y ∈ marksL q, 0 ≤ y ∧ y ≤ 16384) ∧ (0 : Int) ∈ marksL q ∧ (16384 : Int) ∈ marksL q ∧ (marksL q).length ≤ 2 + 2 * q.length ∧
    ∀ s ∈ q, s.f0 ≤ s.f1 → (0 ≤ s.f0 → s.f0 ≤ 16384 → s.f0 ∈ marksL q) ∧ (0 ≤ s.f1 + 1 → s.f1 + 1 ≤ 16384 → s.f1 + 1 ∈ marksL q) := by
  obtain ⟨h1, h2, h3, h4, h5⟩ := marks_fold q [0, 16384] ⟨by decide, trivial⟩ (fun y hy => by simp at hy; omega)
  exact ⟨h1, h2, h3 0 (by simp), h3 16384 (by simp), h4, h5⟩
/-- between two marks a list says one thing -/
theorem say_flat {a : List S31} {L : List Int} (hL : ∀ s ∈ a, s.f0 ≤ s.f1 → (0 ≤ s.f0 → s.f0 ≤ 16384 → s.f0 ∈ L) ∧ (0 ≤ s.f1 + 1 → s.f1 + 1 ≤ 16384 → s.f1 + 1 ∈ L)) {m n : Int} (h0 : 0 ≤ m) (h1 : m ≤ n) (h2 : n ≤ 16383)
    (hn : ∀ y ∈ L, ¬ (m < y ∧ y ≤ n)) : sayS a n = sayS a m := by
  have e : hasS a n = hasS a m := by
    rw [Bool.eq_iff_iff, hasS_iff, hasS_iff]
    constructor
    · rintro ⟨s, hs, a1, a2⟩
      refine ⟨s, hs, ?_, by omega⟩
      by_cases c : s.f0 ≤ m
      · exact c
      · exact absurd ⟨by omega, a1⟩ (hn _ ((hL s hs (by omega)).1 (by omega) (by omega)))
    · rintro ⟨s, hs, a1, a2⟩
      refine ⟨s, hs, by omega, ?_⟩
      by_cases c : n ≤ s.f1
      · exact c
      · exact absurd ⟨by omega, by omega⟩ (hn _ ((hL s hs (by omega)).2 (by omega) (by omega)))
  unfold sayS
  rw [e, decide_eq_true (show 0 ≤ n by omega), decide_eq_true h2, decide_eq_true h0, decide_eq_true (show m ≤ 16383 by omega)]
theorem rise_flat (p : Int → Bool) (L : List Int) (hL : ∀ y ∈ L, 0 ≤ y ∧ y ≤ 16384) (h4 : (16384 : Int) ∈ L) (hp : ∀ m n, 0 ≤ m → m ≤ n → n ≤ 16383 → (∀ y ∈ L, ¬ (m < y ∧ y ≤ n)) → p n = p m) :
    ∀ (r : List Int) (m : Int), upM (m :: r) → (∀ y ∈ m :: r, y ∈ L) → (∀ y ∈ L, y ≤ m ∨ y ∈ r) → riseM m r ∧ flatM p m r
  | [], m, _, h1, h2 => by
    have a := (hL m (h1 m (by simp))).2
    have b : (16384 : Int) ≤ m := (h2 _ h4).resolve_right (by simp)
    exact ⟨show m = 16384 by omega, trivial⟩
  | m' :: r, m, hu, h1, h2 => by
    have a := hL m (h1 m (by simp))
    have b := hL m' (h1 m' (by simp))
    obtain ⟨i1, i2⟩ := rise_flat p L hL h4 hp r m' (upM_tail hu) (fun y hy => h1 y (List.mem_cons_of_mem _ hy)) (fun y hy => by
      rcases h2 y hy with e | e
      · have := hu.1; exact .inl (by omega)
      · rcases List.mem_cons.1 e with rfl | e
        · exact .inl (Int.le_refl _)
        · exact .inr e)
    refine ⟨⟨hu.1, b.2, i1⟩, fun n k1 k2 => hp m n a.1 k1 (by omega) fun y hy ⟨c1, c2⟩ => ?_, i2⟩
    rcases h2 y hy with e | e
    · omega
    · rcases List.mem_cons.1 e with rfl | e
      · omega
      · have := upM_lt (upM_tail hu) y e; omega
/-- what is told of a slot: either, the first alone, both -/
def mixP (how : Int) (x y : Bool) : Bool := if how = 1 then x && !y else if how = 2 then x && y else x || y
def mixR (how : Int) (a b : List S31) : List S31 := mixL (fun n => mixP how (sayS a n) (sayS b n)) (marksL (a ++ b)) []
theorem mixR_spec (how : Int) (a b : List S31) : mayS (mixR how a b) ∧ ∀ n, hasS (mixR how a b) n = (decide (0 ≤ n) && decide (n < 16384) && mixP how (sayS a n) (sayS b n)) := by
  obtain ⟨h1, h2, h3, h4, _, h5⟩ := marks_spec (a ++ b)
  unfold mixR
  cases hm : marksL (a ++ b) with
  | nil => rw [hm] at h3; cases h3
  | cons m r =>
    rw [hm] at h1 h2 h3 h4 h5
    have hm0 : m = 0 := by
      have := (h2 m (by simp)).1
      rcases List.mem_cons.1 h3 with e | e
      · exact e.symm
      · have := upM_lt h1 0 e; omega
    subst hm0
    obtain ⟨g1, g2⟩ := rise_flat (fun n => mixP how (sayS a n) (sayS b n)) (0 :: r) h2 h4 (fun m n k0 k1 k2 k3 => by
      rw [say_flat (fun s hs => h5 s (List.mem_append_left _ hs)) k0 k1 k2 k3, say_flat (fun s hs => h5 s (List.mem_append_right _ hs)) k0 k1 k2 k3]) r 0 h1 (fun y hy => hy) (fun y hy => by
      rcases List.mem_cons.1 hy with rfl | e
      · exact .inl (Int.le_refl _)
      · exact .inr e)
    refine mix_spec _ r 0 [] (Int.le_refl _) g1 g2 trivial fun n => ?_
    rw [hasS_nil]
    by_cases c : 0 ≤ n
    · rw [decide_eq_false (show ¬ n < 0 by omega)]; simp
    · rw [decide_eq_false c]; simp
theorem mixR_say (how : Int) (a b : List S31) (n : Int) : sayS (mixR how a b) n = (decide (0 ≤ n) && decide (n ≤ 16383) && mixP how (sayS a n) (sayS b n)) := by
  rw [sayS_may (mixR_spec how a b).1, (mixR_spec how a b).2]
  congr 2
  exact decide_eq_decide.2 (by omega)
theorem sayS_app (a b : List S31) (n : Int) : sayS (a ++ b) n = (sayS a n || sayS b n) := by
  unfold sayS; rw [hasS_app]; cases decide (0 ≤ n) <;> cases decide (n ≤ 16383) <;> simp
theorem sayS_nil (n : Int) : sayS [] n = false := by unfold sayS; rw [hasS_nil, Bool.and_false]
/-- together -/
theorem mixR_or {how : Int} (h1 : how ≠ 1) (h2 : how ≠ 2) (a b : List S31) : mixR how a b = normS (a ++ b) := by
  refine norm_of (mixR_spec how a b).1 fun n => ?_
  rw [(mixR_spec how a b).2, sayS_app]
  unfold mixP
  rw [if_neg h1, if_neg h2]
  unfold sayS
  by_cases c : n < 16384
  · rw [decide_eq_true c, decide_eq_true (show n ≤ 16383 by omega)]
    cases decide (0 ≤ n) <;> simp
  · rw [decide_eq_false c, decide_eq_false (show ¬ n ≤ 16383 by omega)]
    cases decide (0 ≤ n) <;> simp
theorem mixR_norm (a : List S31) : mixR 0 a [] = normS a := by rw [mixR_or (by decide) (by decide), List.append_nil]
theorem mixL_len (p : Int → Bool) : ∀ (r out), (mixL p r out).length ≤ out.length + r.length
  | [], out => by unfold mixL; omega
  | [m], out => by unfold mixL; omega
  | m :: m' :: r, out => by
    rw [mixL]
    have ih := mixL_len p (m' :: r) (if p m = true then addM out m m' else out)
    have ha : (addM out m m').length ≤ out.length + 1 := by
      unfold addM
      rcases List.eq_nil_or_concat out with rfl | ⟨q, t, rfl⟩
      · simp
      · rw [List.concat_eq_append]; simp; split <;> simp
    split at ih
    · rw [if_pos ‹_›]; simp only [List.length_cons] at ih ⊢; omega
    · rw [if_neg ‹_›]; simp only [List.length_cons] at ih ⊢; omega
end Go.Proofs.YtnlakdpfkgjdaaaDoor.G

/- spans.Has over the library's ContainsFunc. Condition: a bound on the list's length. -/
namespace Go.Proofs.YtnlakdpfkgjdaaaDoor.G
open Go.RowKit Go.Cav Go.Proofs.YtnlakdpfkgjdaaaDoorW.PrintWords Go.Proofs.YtnlakdpfkgjdaaaDoorW.PrintLast Go.Proofs.YtnlakdpfkgjdaaaDoorW.PrintMore
attribute [local go_sem] Oper.semAt_some
/-- the first place at which p holds, or -1 -/
def idxI {α : Type} (p : α → Bool) (l : List α) : Int := match l.findIdx? p with
  | some i => (i : Int)
  | none => -1
theorem idxI_hit {α : Type} (p : α → Bool) (l : List α) (j : Nat) (x : α) (hx : l[j]? = some x) (hp : p x = true) (hn : ∀ i, i < j → ∀ y, l[i]? = some y → p y = false) : idxI p l = (j : Int) := by
  obtain ⟨hj, rfl⟩ := List.getElem?_eq_some_iff.1 hx
  have h : l.findIdx? p = some j := List.findIdx?_eq_some_iff_getElem.2 ⟨hj, hp, fun i hi => by simpa using hn i hi l[i] (List.getElem?_eq_getElem (by omega))⟩
  unfold idxI; rw [h]
theorem idxI_miss {α : Type} (p : α → Bool) (l : List α) (hn : ∀ i, i < l.length → ∀ y, l[i]? = some y → p y = false) : idxI p l = -1 := by
  have h : l.findIdx? p = none := List.findIdx?_eq_none_iff.2 fun x hx => by
    obtain ⟨i, hi, rfl⟩ := List.mem_iff_getElem.1 hx
    exact hn i hi _ (List.getElem?_eq_getElem hi)
  unfold idxI; rw [h]
theorem idxI_any {α : Type} (p : α → Bool) (l : List α) : decide (0 ≤ idxI p l) = l.any p := by
  unfold idxI
  cases h : l.findIdx? p with
  | none =>
    have h1 := List.findIdx?_eq_none_iff.1 h
    have : l.any p = false := by rw [List.any_eq_false]; intro x hx e; rw [h1 x hx] at e; cases e
    rw [this]; rfl
  | some i =>
    obtain ⟨hi, hp, _⟩ := List.findIdx?_eq_some_iff_getElem.1 h
    have : l.any p = true := List.any_eq_true.2 ⟨_, List.getElem_mem hi, hp⟩
    rw [this]; simp
set_option maxRecDepth 100000 in
set_option maxHeartbeats 4000000 in
theorem indexF_spans (g : Nat) (lb : Array Value) (p : S31 → Bool) (eg : ∀ args w, (callFunc g args).run Tryd.prog w = .ok (.enter g args) w) (A : Option Addr) (c : Nat) (l : List S31) (w : World) (hs : l.length ≤ 9000000000000000000)
    (hp : ∀ x : S31, ∀ w', Below w.heap.size w w' → Calls Tryd.prog g (#[.agg #[.int .i64 x.f0, .int .i64 x.f1]] ++ lb) w' fun e w'' => e = .returned (.bool (p x)) ∧ Below w'.heap.size w' w'')
    (hr : Kd.C k31 w A l.length l) :
    Calls Tryd.prog 49 #[.slice A l.length c, .func (.func g) #[] lb] w fun e w' => e = .returned (.int .i64 (idxI p l)) ∧ Below w.heap.size w w' := by
  have HR := Lib.hid hr
  have HP := Lib.hid hp
  clear hr hp
  go_enter Tryd.func49, Tryd.ntmps49
  go_wp2
  go_loopw [8] (fun i wr => ∃ j : Nat, j ≤ l.length ∧ i = .int .i64 (j : Int) ∧ Below w.heap.size w wr ∧ Hid (∀ i, i < j → ∀ y, l[i]? = some y → p y = false)) (fun i _ => l.length - (intOf i).toNat)
  case atStart => exact ⟨0, by omega, rfl, Below.refl _ _, Lib.hid (fun i h => absurd h (Nat.not_lt_zero _))⟩
  case round =>
    obtain ⟨j, hj, rfl, hB, hn⟩ := hrel
    by_cases hlt : j < l.length
    · obtain ⟨ad, rfl, e0, e1⟩ := at_T31 HR.out (j : Int) (by omega) (by omega)
      rw [Int.toNat_natCast] at e0 e1
      have hk2 : rd_T31 l (j : Int) = l[j] := by unfold rd_T31; simp [hlt]
      rw [hk2] at e0 e1
      replace e0 := (Stir.of_below hB (fun _ => False)).cell e0 (fun e => e)
      replace e1 := (Stir.of_below hB (fun _ => False)).cell e1 (fun e => e)
      have hx : l[j]? = some l[j] := List.getElem?_eq_getElem hlt
      have hcall := HP.out l[j] _ hB
      have HX := Lib.hid hx
      have HB := Lib.hid hB
      clear hx hB hk2
      have hltz : (j : Int) < (l.length : Int) := by omega
      generalize l[j] = x at e0 e1 hcall HX
      cases hq : p x with
      | true =>
        rw [hq] at hcall
        have HQ := Lib.hid hq
        clear hq
        go_wp2_with (go_at_fn g; refine hcall.mono ?_; rintro e w' ⟨rfl, hb⟩)
        go_ret
        exact ⟨by rw [idxI_hit p l j x HX.out HQ.out hn.out]; rfl, HB.out.trans (hb.mono HB.out.size)⟩
      | false =>
        rw [hq] at hcall
        have HQ := Lib.hid hq
        clear hq
        go_wp2_with (go_at_fn g; refine hcall.mono ?_; rintro e w' ⟨rfl, hb⟩)
        go_roundw
        case rel =>
          refine ⟨j + 1, by omega, by simp, HB.out.trans (hb.mono HB.out.size), Lib.hid (fun i hi y hy => ?_)⟩
          by_cases e : i = j
          · subst e; rw [HX.out] at hy; cases hy; exact HQ.out
          · exact hn.out i (by omega) y hy
        case measure => simp [intOf]; omega
    · have hltz : ¬ (j : Int) < (l.length : Int) := by omega
      obtain rfl : j = l.length := by omega
      have HB := Lib.hid hB
      clear hB
      go_wp2
      go_ret
      exact ⟨by rw [idxI_miss p l hn.out]; rfl, HB.out⟩
set_option maxRecDepth 100000 in
set_option maxHeartbeats 4000000 in
theorem containsF_spans (g : Nat) (lb : Array Value) (p : S31 → Bool) (eg : ∀ args w, (callFunc g args).run Tryd.prog w = .ok (.enter g args) w) (A : Option Addr) (c : Nat) (l : List S31) (w : World) (hs : l.length ≤ 9000000000000000000)
    (hp : ∀ x : S31, ∀ w', Below w.heap.size w w' → Calls Tryd.prog g (#[.agg #[.int .i64 x.f0, .int .i64 x.f1]] ++ lb) w' fun e w'' => e = .returned (.bool (p x)) ∧ Below w'.heap.size w' w'')
    (hr : Kd.C k31 w A l.length l) :
    Calls Tryd.prog 33 #[.slice A l.length c, .func (.func g) #[] lb] w fun e w' => e = .returned (.bool (l.any p)) ∧ Below w.heap.size w w' := by
  have hI := indexF_spans g lb p eg A c l w hs hp hr
  have hA := idxI_any p l
  generalize idxI p l = n at hI hA
  have HA := Lib.hid hA
  clear hr hp hA
  go_enter Tryd.func33, Tryd.ntmps33
  go_wp2_with (go_at_call 49; refine hI.mono ?_; rintro e w1 ⟨rfl, hb⟩)
  go_ret
  exact ⟨by rw [← HA.out]; rfl, hb⟩
set_option maxRecDepth 100000 in
set_option maxHeartbeats 4000000 in
theorem has1_calls (s : S31) (n : Int) (bx : Addr) (w : World) (hx : w.cell? bx = some (.int .i64 n)) :
    Calls Tryd.prog 34 #[.agg #[.int .i64 s.f0, .int .i64 s.f1], .pointer (some bx)] w fun e w' => e = .returned (.bool (decide (s.f0 ≤ n) && decide (n ≤ s.f1))) ∧ Below w.heap.size w w' := by
  obtain ⟨x0, x1⟩ := s
  have hx2 := ((Below.refl w.heap.size w).alloc (Nat.le_refl _) (.cells #[.int .i64 x0, .int .i64 x1] 31))
  have hx3 := (Stir.of_below hx2 (fun _ => False)).cell hx (fun e => e)
  have HB := Lib.hid hx2
  clear hx2
  by_cases h : x0 ≤ n
  · have hd : decide (x0 ≤ n) = true := decide_eq_true h
    go_enter Tryd.func34, Tryd.ntmps34
    go_wp2
    go_ret
    exact ⟨by simp [hd], HB.out⟩
  · have hd : decide (x0 ≤ n) = false := decide_eq_false h
    go_enter Tryd.func34, Tryd.ntmps34
    go_wp2
    go_ret
    exact ⟨by simp, HB.out⟩
set_option maxRecDepth 100000 in
set_option maxHeartbeats 4000000 in
theorem has_any (A0 : Option Addr) (c0 : Nat) (l0 : List S31) (n : Int) (w : World) (hr0 : Kd.C k31 w A0 l0.length l0) (h0 : l0.length ≤ 1000000000) :
    Calls Tryd.prog 18 #[.slice A0 l0.length c0, .int .i64 n] w fun e w' => e = .returned (.bool (sayS l0 n)) ∧ Below w.heap.size w w' := by
  have hb0 : Below w.heap.size w (w.alloc (.cells #[.int .i64 n] 3)) := (Below.refl w.heap.size w).alloc (Nat.le_refl _) _
  have hnew : (w.alloc (.cells #[.int .i64 n] 3)).cell? ⟨w.heap.size, 0, none⟩ = some (.int .i64 n) := (cell_of_row _ _ 0 _ _ _ (heap_alloc_new w _)).trans rfl
  have hS := said_any A0 c0 l0 _ (Kd.C_below hr0 hb0) h0
  have hv : sayS l0 n = (pdqS (cutS l0)).any (fun s => decide (s.f0 ≤ n) && decide (n ≤ s.f1)) := by
    rw [← has_cut]
    exact has_mem _ _ (fun x => ((pdqS_spec (cutS l0)).2.1 x).symm) n
  have hlen : (pdqS (cutS l0)).length ≤ 1000000000 := by rw [(pdqS_spec (cutS l0)).1]; exact Nat.le_trans (cutS_len l0) h0
  generalize pdqS (cutS l0) = d at hS hv hlen
  have HV := Lib.hid hv
  have HB0 := Lib.hid hb0
  have HN := Lib.hid hnew
  clear hr0 h0 hv hb0 hnew
  go_enter Tryd.func18, Tryd.ntmps18
  go_wp2_with fail
  refine hS.mono ?_
  rintro e w1 ⟨v1, rfl, hVV, hb1⟩
  have hc1 := (Stir.of_below hb1 (fun _ => False)).cell HN.out (fun e => e)
  obtain ⟨A1, c1, rfl⟩ := Kd.V_slice hVV
  have hC := containsF_spans 34 #[.pointer (some ⟨w.heap.size, 0, none⟩)] _ (enters_of Tryd.func34 (by kernel_rfl) rfl) A1 c1 d w1 (by omega)
    (fun x w2 h2 => has1_calls x n ⟨w.heap.size, 0, none⟩ w2 ((Stir.of_below h2 (fun _ => False)).cell hc1 (fun e => e))) (Kd.V_reads' hVV).2.2
  have HB1 := Lib.hid (HB0.out.trans (hb1.mono HB0.out.size))
  clear hS hVV hb1 HB0 HN
  go_wp2_with fail
  refine hC.mono ?_
  rintro e w2 ⟨rfl, hb2⟩
  have HB2 := Lib.hid (HB1.out.trans (hb2.mono HB1.out.size))
  clear hC hb2 HB1 hc1
  go_wp2
  go_ret
  exact ⟨by rw [HV.out]; rfl, HB2.out⟩
def spans_Has.f (l0 : List S31) (a1 : Int) : Option Bool := if l0.length ≤ 1000000000 then some (sayS l0 a1) else none
theorem spans_Has.calls (A0 : Option Addr) (c0 : Nat) (l0 : List S31) (a1 : Int) (r : Bool) (w : World) (hr0 : Kd.C k31 w A0 l0.length l0) (_hc0 : l0.length ≤ c0) (h : spans_Has.f l0 a1 = some r) :
    Calls Tryd.prog 18 #[.slice A0 l0.length c0, .int .i64 a1] w fun e w' => e = .returned (.bool r) ∧ Below w.heap.size w w' := by
  unfold spans_Has.f at h
  split at h
  case isFalse => cases h
  case isTrue hb =>
    obtain rfl := Option.some.inj h
    exact has_any A0 c0 l0 a1 w hr0 hb
end Go.Proofs.YtnlakdpfkgjdaaaDoor.G

/- spans.Count, and the document's example. Conditions: a bound on the list's length. -/
namespace Go.Proofs.YtnlakdpfkgjdaaaDoor.G
open Go.RowKit Go.Cav Go.Proofs.YtnlakdpfkgjdaaaDoorW.PrintWords Go.Proofs.YtnlakdpfkgjdaaaDoorW.PrintLast Go.Proofs.YtnlakdpfkgjdaaaDoorW.PrintMore
theorem count_loop (l : List S31) (hl : l.length ≤ 1000000000) (hin : ∀ s ∈ l, 0 ≤ s.f0 ∧ s.f0 ≤ s.f1 ∧ s.f1 ≤ 16383) : ∀ n j k (a : Int), j + n = l.length → 0 ≤ a → a ≤ 16384 * (j : Int) → spans_Count.l0 (k + n + 1) a l (l.length : Int) (j : Int) = some (a + widS (l.drop j))
  | 0, j, k, a, hj, h0, h1 => by
    rw [spans_Count.l0, if_neg (by omega), List.drop_of_length_le (by omega)]
    exact congrArg some (by show a = a + 0; omega)
  | n + 1, j, k, a, hj, h0, h1 => by
    have hlt : j < l.length := by omega
    have hs := hin l[j] (List.getElem_mem hlt)
    have ew : wrap64 ((j : Int) + 1) = ((j + 1 : Nat) : Int) := by rw [w64 _ (by omega) (by omega)]; omega
    rw [show k + (n + 1) + 1 = (k + n + 1) + 1 by omega, spans_Count.l0, if_pos (by omega), if_pos (by omega), if_pos (by omega), rd_at l j hlt, ew, List.drop_eq_getElem_cons hlt]
    rw [w64 (l[j].f1 - l[j].f0) (by omega) (by omega), w64 (l[j].f1 - l[j].f0 + 1) (by omega) (by omega), w64 (a + (l[j].f1 - l[j].f0 + 1)) (by omega) (by omega), count_loop l hl hin n (j + 1) k _ (by omega) (by omega) (by omega)]
    exact congrArg some (by show _ = a + (l[j].f1 - l[j].f0 + 1 + widS (l.drop (j + 1))); omega)
theorem count_f (l : List S31) (hl : l.length ≤ 1000000000) (k : Nat) : spans_Count.f (k + l.length + 1) l = some (widS (normS l)) := by
  have hn := normS_len l
  unfold spans_Count.f
  rw [norm_f l hl k, Option.bind_some]
  have h := count_loop (normS l) (by omega) (mayF_in (norm_spec l).1 (by omega)) (normS l).length 0 (k + l.length - (normS l).length) 0 (by omega) (by omega) (by omega)
  rw [show k + l.length - (normS l).length + (normS l).length + 1 = k + l.length + 1 by omega] at h
  rw [show ((0 : Nat) : Int) = 0 from rfl, List.drop_zero, Int.zero_add] at h
  exact h
instance decEqSp : DecidableEq S31 := fun x y =>
  if h : x.f0 = y.f0 ∧ x.f1 = y.f1 then .isTrue (by cases x; cases y; obtain ⟨h1, h2⟩ := h; cases h1; cases h2; rfl) else .isFalse (fun e => h (by rw [e]; exact ⟨rfl, rfl⟩))
theorem awake_read : readP ⟨#[48, 45, 53, 44, 55]⟩ = ([⟨0, 5⟩, ⟨7, 7⟩], true) := by
  decide +kernel
theorem awake_ok (k : Nat) : caravanlaw2_awake.f (k + 3) = some true := by
  unfold caravanlaw2_awake.f
  have h1 : spans_Read.f (⟨#[48, 45, 53, 44, 55]⟩ : ByteArray) = some ([⟨0, 5⟩, ⟨7, 7⟩], true) := by
    unfold spans_Read.f
    rw [if_pos (by decide), awake_read]
  have h2 : spans_Text.f (k + 3) [(⟨7, 7⟩ : S31), ⟨0, 5⟩] = some (textS [(⟨7, 7⟩ : S31), ⟨0, 5⟩]) := text_f [(⟨7, 7⟩ : S31), ⟨0, 5⟩] (by decide) k
  have h3 : spans_Count.f (k + 3) [(⟨0, 5⟩ : S31), ⟨7, 7⟩] = some (widS (normS [(⟨0, 5⟩ : S31), ⟨7, 7⟩])) := count_f [(⟨0, 5⟩ : S31), ⟨7, 7⟩] (by decide) k
  have h4 : (textS [(⟨7, 7⟩ : S31), ⟨0, 5⟩]).toList = [48, 45, 53, 44, 55] := by decide +kernel
  have h5 : widS (normS [(⟨0, 5⟩ : S31), ⟨7, 7⟩]) = 7 := by decide +kernel
  rw [h1, Option.bind_some, if_pos rfl, if_pos (by decide), h2, Option.bind_some, if_pos h4, h3, Option.bind_some, h5]
  rfl
end Go.Proofs.YtnlakdpfkgjdaaaDoor.G
