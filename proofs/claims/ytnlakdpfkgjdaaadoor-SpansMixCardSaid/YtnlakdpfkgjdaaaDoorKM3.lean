/- Texts of mine, packed in the order in which they build: G2, GHas, PAw, G4, G5, G6, G1, G7, G8, PXa, PEv, GUnion, PXc, G12, PureSpansMix, WSpansMix. Conditions: where a theorem asks for any, it names them. -/
import Derived.Test.YtnlakdpfkgjdaaaDoorRows
import Derived.Test.YtnlakdpfkgjdaaaDoorProg
import Derived.WalkKit
import Derived.WalkSpells
import Derived.WalkLawsBesides
import Derived.WalkSmall
import Derived.OwnWalkIn
import Derived.TacticsInMore
import Derived.Laws.AppendOwnNone
import Derived.Maps.AppendAt
import Derived.Deep.RegionLaw
import Derived.Lib.BufferRead
import Derived.KernelRfl
import Derived.Lib.Hide
import Derived.Lib.SplitLaws
import Derived.Shelf.Strings.OnBuilder
import Derived.Shelf.Small.Bits
import Derived.Shelf.Small.Wraps
import Derived.Shelf.LaysM
import Derived.Shelf.Strconv.Itoa3
import Derived.Shelf.LaysC
import Derived.Shelf.Strconv.AtoiAll
import Derived.Shelf.Strings.Search3
import Derived.Shelf.Strings.Cut
import Derived.Shelf.SlSortCmp.WholeK
import Derived.Shelf.Lays
import Derived.Shelf.SlLaysF0
import Derived.Test.YtnlakdpfkgjdaaaDoorWWords
import Derived.Test.YtnlakdpfkgjdaaaDoorWLast
import Derived.Test.YtnlakdpfkgjdaaaDoorWQPut
import Derived.Test.YtnlakdpfkgjdaaaDoorWApart
import Derived.Test.YtnlakdpfkgjdaaaDoorWArr
import Derived.Test.YtnlakdpfkgjdaaaDoorWZeros
import Derived.Test.YtnlakdpfkgjdaaaDoorWFoot
import Derived.Test.YtnlakdpfkgjdaaaDoorWKept
import Derived.Test.YtnlakdpfkgjdaaaDoorWShare
import Derived.Test.YtnlakdpfkgjdaaaDoorWN
import Derived.Test.YtnlakdpfkgjdaaaDoorWNEv
import Derived.Test.YtnlakdpfkgjdaaaDoorWMore
import Derived.IntWalk
import Derived.Lib.AppendIntMem
import Derived.Lib.ItoaLen
import Derived.Stop.LaidErr
import Derived.Lib.LaidTab
import Derived.LaidLaws
import Derived.Deep.DeepLaidRun
import Derived.ChangeSame
import Derived.ChangeVars
import Derived.JoinedOf
import Derived.RowKit
import Derived.RowKit3
import Derived.RowKitTokens
import Derived.HandedShaped
import Derived.Handed
import Derived.Shelf.Vars
import Derived.SevenTiedAt
import Derived.ProofKit
import Derived.OpenShut
import Derived.ShutString
import Derived.ChangeOld
import Derived.Below
import Derived.SizedLaws
import Derived.Carry
import Derived.Deep.Slices
import Derived.Deep.Draws
import Derived.Deep.AppendLies
import Derived.OwnWalk
import Derived.Laws.BytesArg
import Derived.Laws.MakeOwn
import Derived.Laws.OwnMore
import Derived.Deep.OwnRows
import Derived.Tactics
import Derived.Lib.ConvBytes
import Derived.Laws.Slices
import Derived.Deep.LoopGhost
import Derived.Deep.QuietTactic
import Derived.BigQuiet
import Derived.WideLaws
import Derived.Deep.DeepCutAuto
import Derived.Deep.CutBlock
import Derived.Deep.RegionHeld3
import Derived.Laws.Rows
import Derived.Lib.AppendStr
import Derived.ArgAppend
import Derived.Laws.IdiomCopy
import Derived.OrdersHeld
import Derived.Laws.BitsLemmas
import Derived.Test.YtnlakdpfkgjdaaaDoorWTab
import Derived.Test.YtnlakdpfkgjdaaaDoorWFour
import Derived.Test.YtnlakdpfkgjdaaaDoorWFootNe
import Derived.Test.YtnlakdpfkgjdaaaDoorWAt
import Derived.Test.YtnlakdpfkgjdaaaDoorWEqStruct
import Derived.Test.YtnlakdpfkgjdaaaDoorWRepsOne
import Derived.Test.YtnlakdpfkgjdaaaDoorWInv
import Derived.Test.YtnlakdpfkgjdaaaDoorWInvWords
import Derived.Test.YtnlakdpfkgjdaaaDoorWGuard
import Derived.RangeFuncNested
import Derived.RangeFuncBound
import Derived.RangeFuncCalls
import Derived.RangeFuncLeaves
import Derived.RangeFuncBox
import Derived.Shelf.Abstract
import Derived.Shelf.RegionOpen
import Derived.LoopNIn
import Derived.LoopIn
import Derived.Deep.RegionWith
import Derived.BigRegionIn
import Derived.RegionIn
import Derived.Sort.BigQuietIn
import Derived.StillTail
import Derived.StillTactics
import Derived.OrdersIn
import Derived.TacticsIn
import Derived.Stop.RegionWithIn
import Derived.Sort.CutIn
import Derived.Lib.IndexBytes
import Derived.Lib.IndexLaws
import Derived.Laws.Tables
import Derived.Test.YtnlakdpfkgjdaaaDoorKM1
import Derived.Test.YtnlakdpfkgjdaaaDoorKM2
/- What functions of the translation come to, and their calls' proofs; by a program of mine over the kit's print, with contracts given by hand beside. Conditions: where a plain function tells none, nothing is said. -/
namespace Go.Proofs.YtnlakdpfkgjdaaaDoor.G
open Go.RowKit Go.Proofs.YtnlakdpfkgjdaaaDoorW.PrintWords Go.Proofs.YtnlakdpfkgjdaaaDoorW.PrintLast Go.Proofs.YtnlakdpfkgjdaaaDoorW.PrintMore
attribute [local go_sem] max2_int min2_int max_two min_two max_three min_three max_four min_four   -- for this text's walks alone
set_option linter.unusedVariables false
set_option linter.unusedSimpArgs false

/-! ### spans_Count: function 20 -/
def spans_Count.l0 : Nat → Int → List (S31) → Int → Int → Option (Int)
 | 0, _, _, _, _ => none
 | k + 1, x3, x7, x8, x9 => if x9 < x8 then (if 0 ≤ x9 then (if x9 < (x7.length : Int) then (spans_Count.l0 k (wrap64 (x3 + (wrap64 ((wrap64 (((rd_T31 x7 x9).f1) - ((rd_T31 x7 x9).f0))) + 1)))) x7 x8 (wrap64 (x9 + 1))) else (none)) else (none)) else (some x3)
def spans_Count.f (k : Nat) (l0 : List (S31)) : Option (Int) := (spans_Norm.f k l0).bind fun t101 => (spans_Count.l0 k 0 t101 (t101.length : Int) 0)
theorem spans_Count.mono_l : ∀ k, (∀ y0 y1 y2 y3, LeO (spans_Count.l0 k y0 y1 y2 y3) (spans_Count.l0 (k + 1) y0 y1 y2 y3))
 | 0 => fun _ _ _ _ r h => by simp [spans_Count.l0] at h
 | k + 1 => by
  have ih0 := spans_Count.mono_l k
  ·intro y0 y1 y2 y3
   unfold spans_Count.l0
   repeat' first
   | (with_reducible exact ih0 _ _ _ _)
   | (with_reducible exact spans_Norm.mono _ _)
   | (with_reducible exact LeO.refl _)
   | (with_reducible exact LeO.none _)
   | (with_reducible refine LeO.ite ?_ ?_)
   | (with_reducible refine LeO.bind ?_ (fun _ => ?_))
   | exact ih0 _ _ _ _
   | exact spans_Norm.mono _ _
   | exact LeO.none _
   | refine LeO.ite ?_ ?_
   | refine LeO.bind ?_ (fun _ => ?_)
theorem spans_Count.mono : ∀ a0 k, LeO (spans_Count.f k a0) (spans_Count.f (k + 1) a0) := by
 intro a0 k
 have ih0 := spans_Count.mono_l k
 unfold spans_Count.f
 repeat' first
  | (with_reducible exact ih0 _ _ _ _)
  | (with_reducible exact spans_Norm.mono _ _)
  | (with_reducible exact LeO.refl _)
  | (with_reducible exact LeO.none _)
  | (with_reducible refine LeO.ite ?_ ?_)
  | (with_reducible refine LeO.bind ?_ (fun _ => ?_))
  | exact ih0 _ _ _ _
  | exact spans_Norm.mono _ _
  | exact LeO.none _
  | refine LeO.ite ?_ ?_
  | refine LeO.bind ?_ (fun _ => ?_)
set_option maxHeartbeats 8000000 in
set_option maxRecDepth 100000 in
theorem spans_Count.calls (k : Nat) (A0 : Option Addr) (c0 : Nat) (l0 : List (S31)) (r : Int) (w : World) (hr0 : Kd.C k31 w A0 l0.length l0) (hc0 : l0.length ≤ c0) (h : spans_Count.f k l0 = some r) :
 Calls Tryd.prog 20 #[.slice A0 l0.length c0] w fun e w' => e = .returned (.int .i64 r) ∧ Below w.heap.size w w' := by
 have hu31 := Tryd.underlying31
 have HR0 := Aside0.mk hr0
 have HC0 := Aside0.mk hc0
 clear hr0 hc0
 have HB := Aside0.mk (Below.refl w.heap.size w)
 have H : ((spans_Norm.f k l0).bind fun t101 => (spans_Count.l0 k 0 t101 (t101.length : Int) 0)) = some r := h
 clear h
 replace H := Option.bind_eq_some_iff.mp H
 obtain ⟨t101, A20, H⟩ := H
 replace H : (spans_Count.l0 k 0 t101 (t101.length : Int) 0) = some r := H
 have A2 := Aside0.mk A20
 clear A20
 have H' := Aside0.mk H
 clear H
 go_enter Tryd.func20, Tryd.ntmps20
 go_wp2_with (first | ((with_reducible refine gate_callee (f := 16) rfl ?_); refine goesL_ (some 7) rfl rfl Tryd.func16 (by kernel_rfl) rfl #[.slice A0 l0.length c0] rfl qM_ ?_; (with_reducible refine (spans_Norm.calls k _ _ l0 t101 _ ?side1 ?side2 A2.out).mono ?_); (case side1 => exact qC_ (HR0.out)); (case side2 => exact HC0.out); rintro e w3 ⟨v102, rfl, ho0, hb⟩; refine ⟨_, rfl, ?_⟩; have n0_ := Aside0.mk (Kd.R_lower ho0 (below_size (qdb35_ HB.out))); have n1_ := Aside0.mk (below_step (qdb35_ HB.out) hb); clear HB; have HO103 := n0_; have HB := n1_; clear n0_ n1_; (try clear hb); (try clear hb2); (try clear hk); (try clear hi); (try clear ho0); obtain ⟨Ao4, co4, eo4⟩ := Kd.R_slice HO103.out; subst eo4))
 go_loopg [3, 9] k (fun kq v3 v9 w' => ∃ (x3_1 : Int) (x9_1 : Int), v3 = .int .i64 x3_1 ∧ v9 = .int .i64 x9_1 ∧ Aside0 (spans_Count.l0 kq x3_1 t101 (t101.length : Int) x9_1 = some r) ∧ Aside0 (kq ≤ k) ∧ Aside0 (Kd.R k31 31 w' w.heap.size (fun _ => True) (.slice Ao4 t101.length co4) t101) ∧ Aside0 (Below w.heap.size w w'))
 case atStart => exact ⟨(0), (0), (by first | rfl | (simp; done) | (simp [*]; done)), (by first | rfl | (simp; done) | (simp [*]; done)), H', ⟨Nat.le_refl _⟩, ⟨by (with_reducible repeat (first | apply Kd.R_alloc | apply Kd.R_drewN | apply Kd.R_drew)); exact HO103.out⟩, ⟨(qdb35_ HB.out)⟩⟩
 case round =>
  clear H'
  try clear c1
  try clear c2
  try clear p2
  obtain ⟨x3_1, x9_1, rfl, rfl, HA, HK1, HO_7, HB⟩ := hrel
  cases gk with
  | zero => exact absurd HA.out (by simp [spans_Count.l0])
  | succ k1 =>
   have H := HA.out
   clear HA
   simp only [spans_Count.l0] at H
   by_cases c5 : x9_1 < (t101.length : Int)
   ·rw [if_pos c5] at H
    have c5b0 : decide (x9_1 < (t101.length : Int)) = true := decide_eq_true c5
    clear c5
    by_cases c6 : 0 ≤ x9_1
    ·rw [if_pos c6] at H
     have c6b0 : decide (0 ≤ x9_1) = true := decide_eq_true c6
     clear c6
     by_cases c7 : x9_1 < (t101.length : Int)
     ·rw [if_pos c7] at H
      have c7b0 : decide (x9_1 < (t101.length : Int)) = true := decide_eq_true c7
      clear c7
      have H' := Aside0.mk H
      clear H
      have p104 : 0 ≤ (x9_1 : Int) := of_decide_eq_true (by first | (with_reducible assumption) | assumption)
      have q104 : x9_1 < (t101.length : Int) := of_decide_eq_true (by first | (with_reducible assumption) | assumption)
      obtain ⟨ad104, e104, hx104_0, hx104_1⟩ := at_T31 (Kd.R_reads' HO_7.out).2.2 x9_1 p104 q104
      cases e104
      replace p104 := eq_true p104
      replace q104 := eq_true q104
      go_wp2_with (first | ((with_reducible refine gate_dst (N := 5) rfl ?_); refine box_event ?hg (N := 5) ?hd (cs := #[.int .i64 0, .int .i64 0]) (t := 31) ?hr ?_; (case hd => rfl); (case hg => rfl); (case hr => first | (go_simp; done) | (go_simp; rfl)); intro gb105 hg w8 hbox hb; have n0_ := Aside0.mk (Kd.R_below (Kd.R_elderB (q8524_ HO_7.out) gb105 (Nat.le_of_eq hg.symm)) hb); have n1_ := Aside0.mk (below_step (qdb35_ HB.out) hb); have n2_ := Aside0.mk (hbox); have n3_ := Aside0.mk ((by rw [hg]; exact (below_size (qdb35_ HB.out)) : w.heap.size ≤ gb105)); have n4_ := Aside0.mk ((by rw [hg]; exact (below_size (qdb35_ HB.out)) : w.heap.size ≤ gb105)); clear HO_7; clear HB; have HO_7 := n0_; have HB := n1_; have BK105 := n2_; have GW105 := n3_; have GE105 := n4_; clear n0_ n1_ n2_ n3_ n4_; clear hb hbox hg; have hcz9_0 : w8.cell? ⟨gb105, 0, none⟩ = some (.int .i64 0) := (blk_cell BK105.out 0).trans rfl; have hcz9_1 : w8.cell? ⟨gb105, 1, none⟩ = some (.int .i64 0) := (blk_cell BK105.out 1).trans rfl; have hfz9_0 := blk_frozen BK105.out 0; have hfz9_1 := blk_frozen BK105.out 1))
      go_roundg k1
      case measure => have := HK1.out; omega
      case rel => exact ⟨(wrap64 (x3_1 + (wrap64 ((wrap64 (((rd_T31 t101 x9_1).f1) - ((rd_T31 t101 x9_1).f0))) + 1)))), (wrap64 (x9_1 + 1)), (by first | rfl | (simp; done) | (simp [*]; done)), (by first | rfl | (simp; done) | (simp [*]; done)), H', ⟨by have := HK1.out; omega⟩, ⟨by (with_reducible repeat (first | apply Kd.R_alloc | apply Kd.R_drewN | apply Kd.R_drew)); exact Kd.R_mono (Kd.R_far (p := ⟨gb105, 1, none⟩) (Kd.R_far (p := ⟨gb105, 0, none⟩) (Kd.R_mono HO_7.out (fun k_ hk => (⟨hk, hk.2⟩ : _ ∧ k_ ≠ gb105))) (fun _ hk => hk.2) (.int .i64 ((rd_T31 t101 x9_1).f0))) (fun _ hk => hk.2) (.int .i64 ((rd_T31 t101 x9_1).f1))) (fun _ hk => trivial)⟩, ⟨(qed14_ HB.out GE105.out)⟩⟩
     ·rw [if_neg c7] at H
      exact absurd H (by simp)
    ·rw [if_neg c6] at H
     exact absurd H (by simp)
   ·rw [if_neg c5] at H
    have c5b0 : decide (x9_1 < (t101.length : Int)) = false := decide_eq_false c5
    clear c5
    obtain rfl := Option.some.inj H
    go_wp2
    go_ret
    exact ⟨by first | rfl | (simp [errW_none, errW_some] <;> rfl) | (simp [*, errW_none, errW_some] <;> rfl), (qdb35_ HB.out)⟩

/-! ### caravanlaw2_awake: function 9 -/
def caravanlaw2_awake.f (k : Nat)  : Option (Bool) := (spans_Read.f (⟨#[48, 45, 53, 44, 55]⟩ : ByteArray)).bind fun bt106 => (if bt106.2 = true then (if (bt106.1.length : Int) = 2 then ((spans_Text.f k (([(⟨7, 7⟩ : S31), (⟨0, 5⟩ : S31)] : List (S31)))).bind fun t113 => (if t113.toList = ([48, 45, 53, 44, 55] : List UInt8) then ((spans_Count.f k bt106.1).bind fun t114 => (some (t114 == 7))) else (some false))) else (some false)) else (some false))
theorem caravanlaw2_awake.mono : ∀ k, LeO (caravanlaw2_awake.f k ) (caravanlaw2_awake.f (k + 1) ) := by
 intro  k
 unfold caravanlaw2_awake.f
 repeat' first
  | (with_reducible exact spans_Count.mono _ _)
  | (with_reducible exact spans_Text.mono _ _)
  | (with_reducible exact LeO.refl _)
  | (with_reducible exact LeO.none _)
  | (with_reducible refine LeO.ite ?_ ?_)
  | (with_reducible refine LeO.bind ?_ (fun _ => ?_))
  | exact spans_Count.mono _ _
  | exact spans_Text.mono _ _
  | exact LeO.none _
  | refine LeO.ite ?_ ?_
  | refine LeO.bind ?_ (fun _ => ?_)
set_option maxHeartbeats 8000000 in
set_option maxRecDepth 100000 in
theorem caravanlaw2_awake.calls (k : Nat)  (r : Bool) (w : World) (h : caravanlaw2_awake.f k  = some r) (hWd_ : Wd w) :
 Calls Tryd.prog 9 #[] w fun e w' => e = .returned (.bool r) ∧ Below w.heap.size w w' := by
 have hu31 := Tryd.underlying31
 have HB := Aside0.mk (Below.refl w.heap.size w)
 have H : ((spans_Read.f (⟨#[48, 45, 53, 44, 55]⟩ : ByteArray)).bind fun bt106 => (if bt106.2 = true then (if (bt106.1.length : Int) = 2 then ((spans_Text.f k (([(⟨7, 7⟩ : S31), (⟨0, 5⟩ : S31)] : List (S31)))).bind fun t113 => (if t113.toList = ([48, 45, 53, 44, 55] : List UInt8) then ((spans_Count.f k bt106.1).bind fun t114 => (some (t114 == 7))) else (some false))) else (some false)) else (some false))) = some r := h
 clear h
 replace H := Option.bind_eq_some_iff.mp H
 obtain ⟨⟨t106, t107⟩, A10, H⟩ := H
 replace H : (if t107 = true then (if (t106.length : Int) = 2 then ((spans_Text.f k (([(⟨7, 7⟩ : S31), (⟨0, 5⟩ : S31)] : List (S31)))).bind fun t113 => (if t113.toList = ([48, 45, 53, 44, 55] : List UInt8) then ((spans_Count.f k t106).bind fun t114 => (some (t114 == 7))) else (some false))) else (some false)) else (some false)) = some r := H
 have A1 := Aside0.mk A10
 clear A10
 by_cases c2 : t107 = true
 ·subst c2
  have H1 : (if (t106.length : Int) = 2 then ((spans_Text.f k (([(⟨7, 7⟩ : S31), (⟨0, 5⟩ : S31)] : List (S31)))).bind fun t113 => (if t113.toList = ([48, 45, 53, 44, 55] : List UInt8) then ((spans_Count.f k t106).bind fun t114 => (some (t114 == 7))) else (some false))) else (some false)) = some r := by rw [if_pos rfl] at H; exact H
  clear H
  have H := H1
  clear H1
  by_cases c3 : (t106.length : Int) = 2
  ·rw [if_pos c3] at H
   have c3b0 : ((t106.length : Int) == 2) = true := beq_iff_eq.mpr c3
   have c3b1 : ((t106.length : Int) != 2) = false := bne_eq_false_iff_eq.mpr c3
   clear c3
   obtain ⟨y110, hy110⟩ : ∃ y_ : List (S31), y_ = (([(⟨7, 7⟩ : S31), (⟨0, 5⟩ : S31)] : List (S31))) := ⟨_, rfl⟩
   replace H : ((spans_Text.f k y110).bind fun t113 => (if t113.toList = ([48, 45, 53, 44, 55] : List UInt8) then ((spans_Count.f k t106).bind fun t114 => (some (t114 == 7))) else (some false))) = some r := by first | (rw [hy110]; with_reducible exact H) | (have H2_ := (Option.bind_some _ _).symm.trans H; rw [hy110]; with_reducible exact H2_) | (have H2_ := (Option.bind_some _ _).symm.trans H; with_reducible exact H2_) | with_reducible exact H | (rw [hy110]; exact H) | exact H
   have Ny110 := Aside0.mk hy110
   clear hy110
   replace H := Option.bind_eq_some_iff.mp H
   obtain ⟨t113, A40, H⟩ := H
   replace H : (if t113.toList = ([48, 45, 53, 44, 55] : List UInt8) then ((spans_Count.f k t106).bind fun t114 => (some (t114 == 7))) else (some false)) = some r := H
   have A4 := Aside0.mk A40
   clear A40
   by_cases c5 : t113.toList = ([48, 45, 53, 44, 55] : List UInt8)
   ·rw [if_pos c5] at H
    have c5b0 : (t113.toList == ([48, 45, 53, 44, 55] : List UInt8)) = true := beq_iff_eq.mpr c5
    have c5b1 : (t113.toList != ([48, 45, 53, 44, 55] : List UInt8)) = false := bne_eq_false_iff_eq.mpr c5
    clear c5
    replace H := Option.bind_eq_some_iff.mp H
    obtain ⟨t114, A60, H⟩ := H
    replace H : (some (t114 == 7)) = some r := H
    have A6 := Aside0.mk A60
    clear A60
    obtain rfl := Option.some.inj H
    go_enter Tryd.func9, Tryd.ntmps9
    go_wp2_with (first | ((with_reducible refine gate_callee (f := 10) rfl ?_); refine goesL_ (some 4) rfl rfl Tryd.func10 (by kernel_rfl) rfl #[.string (⟨#[48, 45, 53, 44, 55]⟩ : ByteArray)] rfl qM_ ?_; (with_reducible refine (spans_Read.calls (⟨#[48, 45, 53, 44, 55]⟩ : ByteArray) t106 true _ A1.out (Wd.of hWd_ (qdb35_ HB.out))).mono ?_); rintro e w7 ⟨v108, rfl, ho0, hb⟩; refine ⟨_, rfl, ?_⟩; have n0_ := Aside0.mk (Kd.R_lower ho0 (below_size (qdb35_ HB.out))); have n1_ := Aside0.mk (below_step (qdb35_ HB.out) hb); clear HB; have HO109 := n0_; have HB := n1_; clear n0_ n1_; (try clear hb); (try clear hb2); (try clear hk); (try clear hi); (try clear ho0); obtain ⟨Ao8, co8, eo8⟩ := Kd.R_slice HO109.out; subst eo8) | ((with_reducible refine gate_dst (N := 16) rfl ?_); (try (refine gate_guard (by rfl) ?_; dsimp only)); refine Kd.R_lit k31 _ 31 ?hg (N := 16) ?hd (xs := ([(⟨7, 7⟩ : S31), (⟨0, 5⟩ : S31)] : List (S31))) (inner := [.int .i64 7, .int .i64 7, .int .i64 0, .int .i64 5]) (ok := fun _ => True) (okp := fun _ => True) ?hr ?hp (fun _ hk => hk) trivial (Below.refl _ _) (Nat.le_refl _) (by simp) ?_; (case hd => rfl); (case hg => rfl); (case hr => first | (go_simp; done) | (go_simp; rfl)); (case hp => exact (Reps.c2 (show Kd.M k31 _ _ _ (⟨7, 7⟩ : S31) [.int .i64 7, .int .i64 7] from (k31_mkM _ _ _ (⟨7, 7⟩ : S31) )) (Reps.c2 (show Kd.M k31 _ _ _ (⟨0, 5⟩ : S31) [.int .i64 0, .int .i64 5] from (k31_mkM _ _ _ (⟨0, 5⟩ : S31) )) (Reps.none _ _)))); intro v111 w9 ho10 hb hg_ hnew_; clear hg_ hnew_; (first | rw [← Ny110.out] at ho10 | (simp only [Int.reduceToNat] at ho10; rw [← Ny110.out] at ho10)); have n0_ := Aside0.mk (Kd.R_elder' (q8524_ HO109.out) (Kd.R_base ho10) hb); have n1_ := Aside0.mk (Kd.R_lower (Kd.R_new' ho10 (Kd.R_lt (q8524_ HO109.out))) (below_size (qdb35_ HB.out))); have n2_ := Aside0.mk (below_step (qdb35_ HB.out) hb); clear HO109; clear HB; have HO109 := n0_; have HO112 := n1_; have HB := n2_; clear n0_ n1_ n2_; clear hb ho10; obtain ⟨Ao11, co11, eo11⟩ := Kd.R_slice HO112.out; subst eo11) | (go_at_call 22; (with_reducible refine (spans_Text.calls k _ _ y110 t113 _ ?side1 ?side2 A4.out (Wd.of hWd_ (qdb35_ HB.out))).mono ?_); (case side1 => exact qC_ ((Kd.R_reads' HO112.out).2.2)); (case side2 => exact (Kd.R_reads' HO112.out).2.1); rintro e w12 ⟨rfl, hb⟩; have n0_ := Aside0.mk (Kd.R_below (q8524_ HO109.out) hb); have n1_ := Aside0.mk (Kd.R_below (q8524_ HO112.out) hb); have n2_ := Aside0.mk (below_step (qdb35_ HB.out) hb); clear HO109; clear HO112; clear HB; have HO109 := n0_; have HO112 := n1_; have HB := n2_; clear n0_ n1_ n2_; (try clear hb); (try clear hb2); (try clear hk); (try clear hi)) | (go_at_call 20; (with_reducible refine (spans_Count.calls k _ _ t106 t114 _ ?side1 ?side2 A6.out).mono ?_); (case side1 => exact qC_ ((Kd.R_reads' HO109.out).2.2)); (case side2 => exact (Kd.R_reads' HO109.out).2.1); rintro e w13 ⟨rfl, hb⟩; have n0_ := Aside0.mk (Kd.R_below (q8524_ HO109.out) hb); have n1_ := Aside0.mk (Kd.R_below (q8524_ HO112.out) hb); have n2_ := Aside0.mk (below_step (qdb35_ HB.out) hb); clear HO109; clear HO112; clear HB; have HO109 := n0_; have HO112 := n1_; have HB := n2_; clear n0_ n1_ n2_; (try clear hb); (try clear hb2); (try clear hk); (try clear hi)))
    go_ret
    exact ⟨by first | rfl | (simp [errW_none, errW_some] <;> rfl) | (simp [*, errW_none, errW_some] <;> rfl), (qdb35_ HB.out)⟩
   ·rw [if_neg c5] at H
    have c5b0 : (t113.toList == ([48, 45, 53, 44, 55] : List UInt8)) = false := beq_eq_false_iff_ne.mpr c5
    have c5b1 : (t113.toList != ([48, 45, 53, 44, 55] : List UInt8)) = true := bne_iff_ne.mpr c5
    obtain rfl := Option.some.inj H
    go_enter Tryd.func9, Tryd.ntmps9
    go_wp2_with (first | ((with_reducible refine gate_callee (f := 10) rfl ?_); refine goesL_ (some 4) rfl rfl Tryd.func10 (by kernel_rfl) rfl #[.string (⟨#[48, 45, 53, 44, 55]⟩ : ByteArray)] rfl qM_ ?_; (with_reducible refine (spans_Read.calls (⟨#[48, 45, 53, 44, 55]⟩ : ByteArray) t106 true _ A1.out (Wd.of hWd_ (qdb35_ HB.out))).mono ?_); rintro e w14 ⟨v108, rfl, ho0, hb⟩; refine ⟨_, rfl, ?_⟩; have n0_ := Aside0.mk (Kd.R_lower ho0 (below_size (qdb35_ HB.out))); have n1_ := Aside0.mk (below_step (qdb35_ HB.out) hb); clear HB; have HO109 := n0_; have HB := n1_; clear n0_ n1_; (try clear hb); (try clear hb2); (try clear hk); (try clear hi); (try clear ho0); obtain ⟨Ao15, co15, eo15⟩ := Kd.R_slice HO109.out; subst eo15) | ((with_reducible refine gate_dst (N := 16) rfl ?_); (try (refine gate_guard (by rfl) ?_; dsimp only)); refine Kd.R_lit k31 _ 31 ?hg (N := 16) ?hd (xs := ([(⟨7, 7⟩ : S31), (⟨0, 5⟩ : S31)] : List (S31))) (inner := [.int .i64 7, .int .i64 7, .int .i64 0, .int .i64 5]) (ok := fun _ => True) (okp := fun _ => True) ?hr ?hp (fun _ hk => hk) trivial (Below.refl _ _) (Nat.le_refl _) (by simp) ?_; (case hd => rfl); (case hg => rfl); (case hr => first | (go_simp; done) | (go_simp; rfl)); (case hp => exact (Reps.c2 (show Kd.M k31 _ _ _ (⟨7, 7⟩ : S31) [.int .i64 7, .int .i64 7] from (k31_mkM _ _ _ (⟨7, 7⟩ : S31) )) (Reps.c2 (show Kd.M k31 _ _ _ (⟨0, 5⟩ : S31) [.int .i64 0, .int .i64 5] from (k31_mkM _ _ _ (⟨0, 5⟩ : S31) )) (Reps.none _ _)))); intro v111 w16 ho17 hb hg_ hnew_; clear hg_ hnew_; (first | rw [← Ny110.out] at ho17 | (simp only [Int.reduceToNat] at ho17; rw [← Ny110.out] at ho17)); have n0_ := Aside0.mk (Kd.R_elder' (q8524_ HO109.out) (Kd.R_base ho17) hb); have n1_ := Aside0.mk (Kd.R_lower (Kd.R_new' ho17 (Kd.R_lt (q8524_ HO109.out))) (below_size (qdb35_ HB.out))); have n2_ := Aside0.mk (below_step (qdb35_ HB.out) hb); clear HO109; clear HB; have HO109 := n0_; have HO112 := n1_; have HB := n2_; clear n0_ n1_ n2_; clear hb ho17; obtain ⟨Ao18, co18, eo18⟩ := Kd.R_slice HO112.out; subst eo18) | (go_at_call 22; (with_reducible refine (spans_Text.calls k _ _ y110 t113 _ ?side1 ?side2 A4.out (Wd.of hWd_ (qdb35_ HB.out))).mono ?_); (case side1 => exact qC_ ((Kd.R_reads' HO112.out).2.2)); (case side2 => exact (Kd.R_reads' HO112.out).2.1); rintro e w19 ⟨rfl, hb⟩; have n0_ := Aside0.mk (Kd.R_below (q8524_ HO109.out) hb); have n1_ := Aside0.mk (Kd.R_below (q8524_ HO112.out) hb); have n2_ := Aside0.mk (below_step (qdb35_ HB.out) hb); clear HO109; clear HO112; clear HB; have HO109 := n0_; have HO112 := n1_; have HB := n2_; clear n0_ n1_ n2_; (try clear hb); (try clear hb2); (try clear hk); (try clear hi)))
    go_ret
    exact ⟨by first | rfl | (simp [errW_none, errW_some] <;> rfl) | (simp [*, errW_none, errW_some] <;> rfl), (qdb35_ HB.out)⟩
  ·rw [if_neg c3] at H
   have c3b0 : ((t106.length : Int) == 2) = false := beq_eq_false_iff_ne.mpr c3
   have c3b1 : ((t106.length : Int) != 2) = true := bne_iff_ne.mpr c3
   obtain rfl := Option.some.inj H
   go_enter Tryd.func9, Tryd.ntmps9
   go_wp2_with (first | ((with_reducible refine gate_callee (f := 10) rfl ?_); refine goesL_ (some 4) rfl rfl Tryd.func10 (by kernel_rfl) rfl #[.string (⟨#[48, 45, 53, 44, 55]⟩ : ByteArray)] rfl qM_ ?_; (with_reducible refine (spans_Read.calls (⟨#[48, 45, 53, 44, 55]⟩ : ByteArray) t106 true _ A1.out (Wd.of hWd_ (qdb35_ HB.out))).mono ?_); rintro e w20 ⟨v108, rfl, ho0, hb⟩; refine ⟨_, rfl, ?_⟩; have n0_ := Aside0.mk (Kd.R_lower ho0 (below_size (qdb35_ HB.out))); have n1_ := Aside0.mk (below_step (qdb35_ HB.out) hb); clear HB; have HO109 := n0_; have HB := n1_; clear n0_ n1_; (try clear hb); (try clear hb2); (try clear hk); (try clear hi); (try clear ho0); obtain ⟨Ao21, co21, eo21⟩ := Kd.R_slice HO109.out; subst eo21))
   go_ret
   exact ⟨by first | rfl | (simp [errW_none, errW_some] <;> rfl) | (simp [*, errW_none, errW_some] <;> rfl), (qdb35_ HB.out)⟩
 ·replace c2 := Bool.eq_false_iff.mpr c2
  subst c2
  have H1 : (some false) = some r := by rw [if_neg (show ¬ (false = true) by decide)] at H; exact H
  clear H
  have H := H1
  clear H1
  obtain rfl := Option.some.inj H
  go_enter Tryd.func9, Tryd.ntmps9
  go_wp2_with (first | ((with_reducible refine gate_callee (f := 10) rfl ?_); refine goesL_ (some 4) rfl rfl Tryd.func10 (by kernel_rfl) rfl #[.string (⟨#[48, 45, 53, 44, 55]⟩ : ByteArray)] rfl qM_ ?_; (with_reducible refine (spans_Read.calls (⟨#[48, 45, 53, 44, 55]⟩ : ByteArray) t106 false _ A1.out (Wd.of hWd_ (qdb35_ HB.out))).mono ?_); rintro e w22 ⟨v108, rfl, ho0, hb⟩; refine ⟨_, rfl, ?_⟩; have n0_ := Aside0.mk (Kd.R_lower ho0 (below_size (qdb35_ HB.out))); have n1_ := Aside0.mk (below_step (qdb35_ HB.out) hb); clear HB; have HO109 := n0_; have HB := n1_; clear n0_ n1_; (try clear hb); (try clear hb2); (try clear hk); (try clear hi); (try clear ho0)))
  go_ret
  exact ⟨by first | rfl | (simp [errW_none, errW_some] <;> rfl) | (simp [*, errW_none, errW_some] <;> rfl), (qdb35_ HB.out)⟩

/-! ### caravanref1_MaySpans: function 15 -/
def caravanref1_MaySpans.l0 : Nat → List (S31) → Int → Option (Bool)
 | 0, _, _ => none
 | k + 1, x0, x3 => if x3 < (x0.length : Int) then (if 0 ≤ x3 then (if ((rd_T31 x0 x3).f0) < 0 then (some false) else (if ((rd_T31 x0 x3).f1) < ((rd_T31 x0 x3).f0) then (some false) else (if ((rd_T31 x0 x3).f1) ≥ 16384 then (some false) else (if x3 > 0 then (if 0 ≤ (wrap64 (x3 - 1)) then (if (wrap64 (x3 - 1)) < (x0.length : Int) then (if ((rd_T31 x0 x3).f0) ≤ (wrap64 (((rd_T31 x0 (wrap64 (x3 - 1))).f1) + 1)) then (some false) else (caravanref1_MaySpans.l0 k x0 (wrap64 (x3 + 1)))) else (none)) else (none)) else (caravanref1_MaySpans.l0 k x0 (wrap64 (x3 + 1))))))) else (none)) else (some true)
def caravanref1_MaySpans.f (k : Nat) (l0 : List (S31)) : Option (Bool) := caravanref1_MaySpans.l0 k l0 0
theorem caravanref1_MaySpans.mono_l : ∀ k, (∀ y0 y1, LeO (caravanref1_MaySpans.l0 k y0 y1) (caravanref1_MaySpans.l0 (k + 1) y0 y1))
 | 0 => fun _ _ r h => by simp [caravanref1_MaySpans.l0] at h
 | k + 1 => by
  have ih0 := caravanref1_MaySpans.mono_l k
  ·intro y0 y1
   unfold caravanref1_MaySpans.l0
   repeat' first
   | (with_reducible exact ih0 _ _)
   | (with_reducible exact LeO.refl _)
   | (with_reducible exact LeO.none _)
   | (with_reducible refine LeO.ite ?_ ?_)
   | (with_reducible refine LeO.bind ?_ (fun _ => ?_))
   | exact ih0 _ _
   | exact LeO.none _
   | refine LeO.ite ?_ ?_
   | refine LeO.bind ?_ (fun _ => ?_)
theorem caravanref1_MaySpans.mono : ∀ a0 k, LeO (caravanref1_MaySpans.f k a0) (caravanref1_MaySpans.f (k + 1) a0) := by
 intro a0 k
 have ih0 := caravanref1_MaySpans.mono_l k
 unfold caravanref1_MaySpans.f
 repeat' first
  | (with_reducible exact ih0 _ _)
  | (with_reducible exact LeO.refl _)
  | (with_reducible exact LeO.none _)
  | (with_reducible refine LeO.ite ?_ ?_)
  | (with_reducible refine LeO.bind ?_ (fun _ => ?_))
  | exact ih0 _ _
  | exact LeO.none _
  | refine LeO.ite ?_ ?_
  | refine LeO.bind ?_ (fun _ => ?_)
set_option maxHeartbeats 8000000 in
set_option maxRecDepth 100000 in
theorem caravanref1_MaySpans.calls (k : Nat) (A0 : Option Addr) (c0 : Nat) (l0 : List (S31)) (r : Bool) (w : World) (hr0 : Kd.C k31 w A0 l0.length l0) (hc0 : l0.length ≤ c0) (h : caravanref1_MaySpans.f k l0 = some r) :
 Calls Tryd.prog 15 #[.slice A0 l0.length c0] w fun e w' => e = .returned (.bool r) ∧ Drawn0 w w' := by
 have HR0 := Aside0.mk hr0
 have HC0 := Aside0.mk hc0
 clear hr0 hc0
 have H : (caravanref1_MaySpans.l0 k l0 0) = some r := h
 clear h
 have H' := Aside0.mk H
 clear H
 go_enter Tryd.func15, Tryd.ntmps15
 go_wp2
 repeat (go_quiet (fail); try go_wp2)
 go_loopg [3] k (fun kq v3 w' => ∃ (x3_1 : Int), v3 = .int .i64 x3_1 ∧ Aside0 (caravanref1_MaySpans.l0 kq l0 x3_1 = some r) ∧ Aside0 (kq ≤ k) ∧ Drawn0 w w')
 case atStart => exact ⟨(0), (by first | rfl | (simp; done) | (simp [*]; done)), H', ⟨Nat.le_refl _⟩, (by repeat (first | exact Drawn0.refl _ | apply Drawn0.step))⟩
 case round =>
  clear H'
  try clear c1
  obtain ⟨x3_1, rfl, HA, HK1, ⟨m1, rfl⟩⟩ := hrel
  cases gk with
  | zero => exact absurd HA.out (by simp [caravanref1_MaySpans.l0])
  | succ k1 =>
   have H := HA.out
   clear HA
   simp only [caravanref1_MaySpans.l0] at H
   by_cases c2 : x3_1 < (l0.length : Int)
   ·rw [if_pos c2] at H
    have c2b0 : decide (x3_1 < (l0.length : Int)) = true := decide_eq_true c2
    clear c2
    by_cases c3 : 0 ≤ x3_1
    ·rw [if_pos c3] at H
     have c3b0 : decide (0 ≤ x3_1) = true := decide_eq_true c3
     clear c3
     by_cases c4 : ((rd_T31 l0 x3_1).f0) < 0
     ·rw [if_pos c4] at H
      have c4b0 : decide (((rd_T31 l0 x3_1).f0) < 0) = true := decide_eq_true c4
      clear c4
      obtain rfl := Option.some.inj H
      have p115 : 0 ≤ (x3_1 : Int) := of_decide_eq_true (by first | (with_reducible assumption) | assumption)
      have q115 : x3_1 < (l0.length : Int) := of_decide_eq_true (by first | (with_reducible assumption) | assumption)
      obtain ⟨ad115, e115, hx115_0, hx115_1⟩ := at_T31 HR0.out x3_1 p115 q115
      cases e115
      replace p115 := eq_true p115
      replace q115 := eq_true q115
      go_wp2
      repeat (go_quiet (fail); try go_wp2)
      go_ret
      exact ⟨by first | rfl | (simp; done) | (simp [*]; done), (by repeat (first | exact Drawn0.refl _ | apply Drawn0.step))⟩
     ·rw [if_neg c4] at H
      have c4b0 : decide (((rd_T31 l0 x3_1).f0) < 0) = false := decide_eq_false c4
      clear c4
      by_cases c5 : ((rd_T31 l0 x3_1).f1) < ((rd_T31 l0 x3_1).f0)
      ·rw [if_pos c5] at H
       have c5b0 : decide (((rd_T31 l0 x3_1).f1) < ((rd_T31 l0 x3_1).f0)) = true := decide_eq_true c5
       clear c5
       obtain rfl := Option.some.inj H
       have p115 : 0 ≤ (x3_1 : Int) := of_decide_eq_true (by first | (with_reducible assumption) | assumption)
       have q115 : x3_1 < (l0.length : Int) := of_decide_eq_true (by first | (with_reducible assumption) | assumption)
       obtain ⟨ad115, e115, hx115_0, hx115_1⟩ := at_T31 HR0.out x3_1 p115 q115
       cases e115
       replace p115 := eq_true p115
       replace q115 := eq_true q115
       have p116 : 0 ≤ (x3_1 : Int) := of_decide_eq_true (by first | (with_reducible assumption) | assumption)
       have q116 : x3_1 < (l0.length : Int) := of_decide_eq_true (by first | (with_reducible assumption) | assumption)
       obtain ⟨ad116, e116, hx116_0, hx116_1⟩ := at_T31 HR0.out x3_1 p116 q116
       obtain rfl : ad115 = ad116 := (by injection e116)
       replace p116 := eq_true p116
       replace q116 := eq_true q116
       have p117 : 0 ≤ (x3_1 : Int) := of_decide_eq_true (by first | (with_reducible assumption) | assumption)
       have q117 : x3_1 < (l0.length : Int) := of_decide_eq_true (by first | (with_reducible assumption) | assumption)
       obtain ⟨ad117, e117, hx117_0, hx117_1⟩ := at_T31 HR0.out x3_1 p117 q117
       obtain rfl : ad115 = ad117 := (by injection e117)
       replace p117 := eq_true p117
       replace q117 := eq_true q117
       go_wp2
       repeat (go_quiet (fail); try go_wp2)
       go_ret
       exact ⟨by first | rfl | (simp; done) | (simp [*]; done), (by repeat (first | exact Drawn0.refl _ | apply Drawn0.step))⟩
      ·rw [if_neg c5] at H
       have c5b0 : decide (((rd_T31 l0 x3_1).f1) < ((rd_T31 l0 x3_1).f0)) = false := decide_eq_false c5
       clear c5
       by_cases c6 : ((rd_T31 l0 x3_1).f1) ≥ 16384
       ·rw [if_pos c6] at H
        have c6b0 : decide (16384 ≤ ((rd_T31 l0 x3_1).f1)) = true := decide_eq_true c6
        clear c6
        obtain rfl := Option.some.inj H
        have p115 : 0 ≤ (x3_1 : Int) := of_decide_eq_true (by first | (with_reducible assumption) | assumption)
        have q115 : x3_1 < (l0.length : Int) := of_decide_eq_true (by first | (with_reducible assumption) | assumption)
        obtain ⟨ad115, e115, hx115_0, hx115_1⟩ := at_T31 HR0.out x3_1 p115 q115
        cases e115
        replace p115 := eq_true p115
        replace q115 := eq_true q115
        have p116 : 0 ≤ (x3_1 : Int) := of_decide_eq_true (by first | (with_reducible assumption) | assumption)
        have q116 : x3_1 < (l0.length : Int) := of_decide_eq_true (by first | (with_reducible assumption) | assumption)
        obtain ⟨ad116, e116, hx116_0, hx116_1⟩ := at_T31 HR0.out x3_1 p116 q116
        obtain rfl : ad115 = ad116 := (by injection e116)
        replace p116 := eq_true p116
        replace q116 := eq_true q116
        have p117 : 0 ≤ (x3_1 : Int) := of_decide_eq_true (by first | (with_reducible assumption) | assumption)
        have q117 : x3_1 < (l0.length : Int) := of_decide_eq_true (by first | (with_reducible assumption) | assumption)
        obtain ⟨ad117, e117, hx117_0, hx117_1⟩ := at_T31 HR0.out x3_1 p117 q117
        obtain rfl : ad115 = ad117 := (by injection e117)
        replace p117 := eq_true p117
        replace q117 := eq_true q117
        have p118 : 0 ≤ (x3_1 : Int) := of_decide_eq_true (by first | (with_reducible assumption) | assumption)
        have q118 : x3_1 < (l0.length : Int) := of_decide_eq_true (by first | (with_reducible assumption) | assumption)
        obtain ⟨ad118, e118, hx118_0, hx118_1⟩ := at_T31 HR0.out x3_1 p118 q118
        obtain rfl : ad115 = ad118 := (by injection e118)
        replace p118 := eq_true p118
        replace q118 := eq_true q118
        go_wp2
        repeat (go_quiet (fail); try go_wp2)
        go_ret
        exact ⟨by first | rfl | (simp; done) | (simp [*]; done), (by repeat (first | exact Drawn0.refl _ | apply Drawn0.step))⟩
       ·rw [if_neg c6] at H
        have c6b0 : decide (16384 ≤ ((rd_T31 l0 x3_1).f1)) = false := decide_eq_false c6
        clear c6
        by_cases c7 : x3_1 > 0
        ·rw [if_pos c7] at H
         have c7b0 : decide (0 < x3_1) = true := decide_eq_true c7
         clear c7
         obtain ⟨ji8, hji8⟩ : ∃ j_ : Int, (wrap64 (x3_1 - 1)) = j_ := ⟨_, rfl⟩
         replace H : (if 0 ≤ (ji8) then (if (ji8) < (l0.length : Int) then (if ((rd_T31 l0 x3_1).f0) ≤ (wrap64 (((rd_T31 l0 (ji8)).f1) + 1)) then (some false) else (caravanref1_MaySpans.l0 k1 l0 (wrap64 (x3_1 + 1)))) else (none)) else (none)) = some r := by first | (rw [hji8] at H; exact H) | (simp only [hji8] at H ⊢; exact H)
         have hji8w : (IntKind.i64.wrap (x3_1 - 1)) = ji8 := (i64_w _).trans hji8
         by_cases c9 : 0 ≤ (ji8)
         ·rw [if_pos c9] at H
          have c9b0 : decide (0 ≤ (ji8)) = true := decide_eq_true c9
          clear c9
          by_cases c10 : (ji8) < (l0.length : Int)
          ·rw [if_pos c10] at H
           have c10b0 : decide ((ji8) < (l0.length : Int)) = true := decide_eq_true c10
           clear c10
           by_cases c11 : ((rd_T31 l0 x3_1).f0) ≤ (wrap64 (((rd_T31 l0 (ji8)).f1) + 1))
           ·rw [if_pos c11] at H
            have c11b0 : decide (((rd_T31 l0 x3_1).f0) ≤ (wrap64 (((rd_T31 l0 (ji8)).f1) + 1))) = true := decide_eq_true c11
            clear c11
            obtain rfl := Option.some.inj H
            have p115 : 0 ≤ (x3_1 : Int) := of_decide_eq_true (by first | (with_reducible assumption) | assumption)
            have q115 : x3_1 < (l0.length : Int) := of_decide_eq_true (by first | (with_reducible assumption) | assumption)
            obtain ⟨ad115, e115, hx115_0, hx115_1⟩ := at_T31 HR0.out x3_1 p115 q115
            cases e115
            replace p115 := eq_true p115
            replace q115 := eq_true q115
            have p116 : 0 ≤ (x3_1 : Int) := of_decide_eq_true (by first | (with_reducible assumption) | assumption)
            have q116 : x3_1 < (l0.length : Int) := of_decide_eq_true (by first | (with_reducible assumption) | assumption)
            obtain ⟨ad116, e116, hx116_0, hx116_1⟩ := at_T31 HR0.out x3_1 p116 q116
            obtain rfl : ad115 = ad116 := (by injection e116)
            replace p116 := eq_true p116
            replace q116 := eq_true q116
            have p117 : 0 ≤ (x3_1 : Int) := of_decide_eq_true (by first | (with_reducible assumption) | assumption)
            have q117 : x3_1 < (l0.length : Int) := of_decide_eq_true (by first | (with_reducible assumption) | assumption)
            obtain ⟨ad117, e117, hx117_0, hx117_1⟩ := at_T31 HR0.out x3_1 p117 q117
            obtain rfl : ad115 = ad117 := (by injection e117)
            replace p117 := eq_true p117
            replace q117 := eq_true q117
            have p118 : 0 ≤ (x3_1 : Int) := of_decide_eq_true (by first | (with_reducible assumption) | assumption)
            have q118 : x3_1 < (l0.length : Int) := of_decide_eq_true (by first | (with_reducible assumption) | assumption)
            obtain ⟨ad118, e118, hx118_0, hx118_1⟩ := at_T31 HR0.out x3_1 p118 q118
            obtain rfl : ad115 = ad118 := (by injection e118)
            replace p118 := eq_true p118
            replace q118 := eq_true q118
            have p119 : 0 ≤ (x3_1 : Int) := of_decide_eq_true (by first | (with_reducible assumption) | assumption)
            have q119 : x3_1 < (l0.length : Int) := of_decide_eq_true (by first | (with_reducible assumption) | assumption)
            obtain ⟨ad119, e119, hx119_0, hx119_1⟩ := at_T31 HR0.out x3_1 p119 q119
            obtain rfl : ad115 = ad119 := (by injection e119)
            replace p119 := eq_true p119
            replace q119 := eq_true q119
            have p120 : 0 ≤ ((ji8) : Int) := of_decide_eq_true (by first | (with_reducible assumption) | assumption)
            have q120 : (ji8) < (l0.length : Int) := of_decide_eq_true (by first | (with_reducible assumption) | assumption)
            obtain ⟨ad120, e120, hx120_0, hx120_1⟩ := at_T31 HR0.out (ji8) p120 q120
            obtain rfl : ad115 = ad120 := (by injection e120)
            replace p120 := eq_true p120
            replace q120 := eq_true q120
            go_wp2
            repeat (go_quiet (fail); try go_wp2)
            go_ret
            exact ⟨by first | rfl | (simp; done) | (simp only [← hji8] <;> (first | rfl | simp)) | (simp [*]; done), (by repeat (first | exact Drawn0.refl _ | apply Drawn0.step))⟩
           ·rw [if_neg c11] at H
            have c11b0 : decide (((rd_T31 l0 x3_1).f0) ≤ (wrap64 (((rd_T31 l0 (ji8)).f1) + 1))) = false := decide_eq_false c11
            clear c11
            have H' := Aside0.mk H
            clear H
            have p115 : 0 ≤ (x3_1 : Int) := of_decide_eq_true (by first | (with_reducible assumption) | assumption)
            have q115 : x3_1 < (l0.length : Int) := of_decide_eq_true (by first | (with_reducible assumption) | assumption)
            obtain ⟨ad115, e115, hx115_0, hx115_1⟩ := at_T31 HR0.out x3_1 p115 q115
            cases e115
            replace p115 := eq_true p115
            replace q115 := eq_true q115
            have p116 : 0 ≤ (x3_1 : Int) := of_decide_eq_true (by first | (with_reducible assumption) | assumption)
            have q116 : x3_1 < (l0.length : Int) := of_decide_eq_true (by first | (with_reducible assumption) | assumption)
            obtain ⟨ad116, e116, hx116_0, hx116_1⟩ := at_T31 HR0.out x3_1 p116 q116
            obtain rfl : ad115 = ad116 := (by injection e116)
            replace p116 := eq_true p116
            replace q116 := eq_true q116
            have p117 : 0 ≤ (x3_1 : Int) := of_decide_eq_true (by first | (with_reducible assumption) | assumption)
            have q117 : x3_1 < (l0.length : Int) := of_decide_eq_true (by first | (with_reducible assumption) | assumption)
            obtain ⟨ad117, e117, hx117_0, hx117_1⟩ := at_T31 HR0.out x3_1 p117 q117
            obtain rfl : ad115 = ad117 := (by injection e117)
            replace p117 := eq_true p117
            replace q117 := eq_true q117
            have p118 : 0 ≤ (x3_1 : Int) := of_decide_eq_true (by first | (with_reducible assumption) | assumption)
            have q118 : x3_1 < (l0.length : Int) := of_decide_eq_true (by first | (with_reducible assumption) | assumption)
            obtain ⟨ad118, e118, hx118_0, hx118_1⟩ := at_T31 HR0.out x3_1 p118 q118
            obtain rfl : ad115 = ad118 := (by injection e118)
            replace p118 := eq_true p118
            replace q118 := eq_true q118
            have p119 : 0 ≤ (x3_1 : Int) := of_decide_eq_true (by first | (with_reducible assumption) | assumption)
            have q119 : x3_1 < (l0.length : Int) := of_decide_eq_true (by first | (with_reducible assumption) | assumption)
            obtain ⟨ad119, e119, hx119_0, hx119_1⟩ := at_T31 HR0.out x3_1 p119 q119
            obtain rfl : ad115 = ad119 := (by injection e119)
            replace p119 := eq_true p119
            replace q119 := eq_true q119
            have p120 : 0 ≤ ((ji8) : Int) := of_decide_eq_true (by first | (with_reducible assumption) | assumption)
            have q120 : (ji8) < (l0.length : Int) := of_decide_eq_true (by first | (with_reducible assumption) | assumption)
            obtain ⟨ad120, e120, hx120_0, hx120_1⟩ := at_T31 HR0.out (ji8) p120 q120
            obtain rfl : ad115 = ad120 := (by injection e120)
            replace p120 := eq_true p120
            replace q120 := eq_true q120
            go_wp2
            repeat (go_quiet (fail); try go_wp2)
            go_roundg k1
            case measure => have := HK1.out; omega
            case rel => exact ⟨(wrap64 (x3_1 + 1)), (by first | rfl | (simp; done) | (simp [*]; done)), H', ⟨by have := HK1.out; omega⟩, (by repeat (first | exact Drawn0.refl _ | apply Drawn0.step))⟩
          ·rw [if_neg c10] at H
           exact absurd H (by simp)
         ·rw [if_neg c9] at H
          exact absurd H (by simp)
        ·rw [if_neg c7] at H
         have c7b0 : decide (0 < x3_1) = false := decide_eq_false c7
         clear c7
         have H' := Aside0.mk H
         clear H
         have p115 : 0 ≤ (x3_1 : Int) := of_decide_eq_true (by first | (with_reducible assumption) | assumption)
         have q115 : x3_1 < (l0.length : Int) := of_decide_eq_true (by first | (with_reducible assumption) | assumption)
         obtain ⟨ad115, e115, hx115_0, hx115_1⟩ := at_T31 HR0.out x3_1 p115 q115
         cases e115
         replace p115 := eq_true p115
         replace q115 := eq_true q115
         have p116 : 0 ≤ (x3_1 : Int) := of_decide_eq_true (by first | (with_reducible assumption) | assumption)
         have q116 : x3_1 < (l0.length : Int) := of_decide_eq_true (by first | (with_reducible assumption) | assumption)
         obtain ⟨ad116, e116, hx116_0, hx116_1⟩ := at_T31 HR0.out x3_1 p116 q116
         obtain rfl : ad115 = ad116 := (by injection e116)
         replace p116 := eq_true p116
         replace q116 := eq_true q116
         have p117 : 0 ≤ (x3_1 : Int) := of_decide_eq_true (by first | (with_reducible assumption) | assumption)
         have q117 : x3_1 < (l0.length : Int) := of_decide_eq_true (by first | (with_reducible assumption) | assumption)
         obtain ⟨ad117, e117, hx117_0, hx117_1⟩ := at_T31 HR0.out x3_1 p117 q117
         obtain rfl : ad115 = ad117 := (by injection e117)
         replace p117 := eq_true p117
         replace q117 := eq_true q117
         have p118 : 0 ≤ (x3_1 : Int) := of_decide_eq_true (by first | (with_reducible assumption) | assumption)
         have q118 : x3_1 < (l0.length : Int) := of_decide_eq_true (by first | (with_reducible assumption) | assumption)
         obtain ⟨ad118, e118, hx118_0, hx118_1⟩ := at_T31 HR0.out x3_1 p118 q118
         obtain rfl : ad115 = ad118 := (by injection e118)
         replace p118 := eq_true p118
         replace q118 := eq_true q118
         go_wp2
         repeat (go_quiet (fail); try go_wp2)
         go_roundg k1
         case measure => have := HK1.out; omega
         case rel => exact ⟨(wrap64 (x3_1 + 1)), (by first | rfl | (simp; done) | (simp [*]; done)), H', ⟨by have := HK1.out; omega⟩, (by repeat (first | exact Drawn0.refl _ | apply Drawn0.step))⟩
    ·rw [if_neg c3] at H
     exact absurd H (by simp)
   ·rw [if_neg c2] at H
    have c2b0 : decide (x3_1 < (l0.length : Int)) = false := decide_eq_false c2
    clear c2
    obtain rfl := Option.some.inj H
    go_wp2
    repeat (go_quiet (fail); try go_wp2)
    go_ret
    exact ⟨by first | rfl | (simp; done) | (simp [*]; done), (by repeat (first | exact Drawn0.refl _ | apply Drawn0.step))⟩

/-! ### caravanref1_Has: function 19 -/
def caravanref1_Has.l0 : Nat → List (S31) → Int → Int → Option (Bool)
 | 0, _, _, _ => none
 | k + 1, x0, x1, x5 => if x5 < (x0.length : Int) then (if x1 ≥ 0 then (if x1 < 16384 then (if 0 ≤ x5 then (if ((rd_T31 x0 x5).f0) ≤ x1 then (if x1 ≤ ((rd_T31 x0 x5).f1) then (some true) else (caravanref1_Has.l0 k x0 x1 (wrap64 (x5 + 1)))) else (caravanref1_Has.l0 k x0 x1 (wrap64 (x5 + 1)))) else (none)) else (caravanref1_Has.l0 k x0 x1 (wrap64 (x5 + 1)))) else (caravanref1_Has.l0 k x0 x1 (wrap64 (x5 + 1)))) else (some false)
def caravanref1_Has.f (k : Nat) (l0 : List (S31)) (a1 : Int) : Option (Bool) := caravanref1_Has.l0 k l0 a1 0
theorem caravanref1_Has.mono_l : ∀ k, (∀ y0 y1 y2, LeO (caravanref1_Has.l0 k y0 y1 y2) (caravanref1_Has.l0 (k + 1) y0 y1 y2))
 | 0 => fun _ _ _ r h => by simp [caravanref1_Has.l0] at h
 | k + 1 => by
  have ih0 := caravanref1_Has.mono_l k
  ·intro y0 y1 y2
   unfold caravanref1_Has.l0
   repeat' first
   | (with_reducible exact ih0 _ _ _)
   | (with_reducible exact LeO.refl _)
   | (with_reducible exact LeO.none _)
   | (with_reducible refine LeO.ite ?_ ?_)
   | (with_reducible refine LeO.bind ?_ (fun _ => ?_))
   | exact ih0 _ _ _
   | exact LeO.none _
   | refine LeO.ite ?_ ?_
   | refine LeO.bind ?_ (fun _ => ?_)
theorem caravanref1_Has.mono : ∀ a0 a1 k, LeO (caravanref1_Has.f k a0 a1) (caravanref1_Has.f (k + 1) a0 a1) := by
 intro a0 a1 k
 have ih0 := caravanref1_Has.mono_l k
 unfold caravanref1_Has.f
 repeat' first
  | (with_reducible exact ih0 _ _ _)
  | (with_reducible exact LeO.refl _)
  | (with_reducible exact LeO.none _)
  | (with_reducible refine LeO.ite ?_ ?_)
  | (with_reducible refine LeO.bind ?_ (fun _ => ?_))
  | exact ih0 _ _ _
  | exact LeO.none _
  | refine LeO.ite ?_ ?_
  | refine LeO.bind ?_ (fun _ => ?_)
set_option maxHeartbeats 8000000 in
set_option maxRecDepth 100000 in
theorem caravanref1_Has.calls (k : Nat) (A0 : Option Addr) (c0 : Nat) (l0 : List (S31)) (a1 : Int) (r : Bool) (w : World) (hr0 : Kd.C k31 w A0 l0.length l0) (hc0 : l0.length ≤ c0) (h : caravanref1_Has.f k l0 a1 = some r) :
 Calls Tryd.prog 19 #[.slice A0 l0.length c0, .int .i64 a1] w fun e w' => e = .returned (.bool r) ∧ Drawn0 w w' := by
 have HR0 := Aside0.mk hr0
 have HC0 := Aside0.mk hc0
 clear hr0 hc0
 have H : (caravanref1_Has.l0 k l0 a1 0) = some r := h
 clear h
 have H' := Aside0.mk H
 clear H
 go_enter Tryd.func19, Tryd.ntmps19
 go_wp2
 go_loopg [5] k (fun kq v5 w' => ∃ (x5_1 : Int), v5 = .int .i64 x5_1 ∧ Aside0 (caravanref1_Has.l0 kq l0 a1 x5_1 = some r) ∧ Aside0 (kq ≤ k) ∧ Drawn0 w w')
 case atStart => exact ⟨(0), (by first | rfl | (simp; done) | (simp [*]; done)), H', ⟨Nat.le_refl _⟩, (by repeat (first | exact Drawn0.refl _ | apply Drawn0.step))⟩
 case round =>
  clear H'
  try clear c1
  try clear p2
  obtain ⟨x5_1, rfl, HA, HK1, ⟨m1, rfl⟩⟩ := hrel
  cases gk with
  | zero => exact absurd HA.out (by simp [caravanref1_Has.l0])
  | succ k1 =>
   have H := HA.out
   clear HA
   simp only [caravanref1_Has.l0] at H
   by_cases c3 : x5_1 < (l0.length : Int)
   ·rw [if_pos c3] at H
    have c3b0 : decide (x5_1 < (l0.length : Int)) = true := decide_eq_true c3
    clear c3
    by_cases c4 : a1 ≥ 0
    ·rw [if_pos c4] at H
     have c4b0 : decide (0 ≤ a1) = true := decide_eq_true c4
     clear c4
     by_cases c5 : a1 < 16384
     ·rw [if_pos c5] at H
      have c5b0 : decide (a1 < 16384) = true := decide_eq_true c5
      clear c5
      by_cases c6 : 0 ≤ x5_1
      ·rw [if_pos c6] at H
       have c6b0 : decide (0 ≤ x5_1) = true := decide_eq_true c6
       clear c6
       by_cases c7 : ((rd_T31 l0 x5_1).f0) ≤ a1
       ·rw [if_pos c7] at H
        have c7b0 : decide (((rd_T31 l0 x5_1).f0) ≤ a1) = true := decide_eq_true c7
        clear c7
        by_cases c8 : a1 ≤ ((rd_T31 l0 x5_1).f1)
        ·rw [if_pos c8] at H
         have c8b0 : decide (a1 ≤ ((rd_T31 l0 x5_1).f1)) = true := decide_eq_true c8
         clear c8
         obtain rfl := Option.some.inj H
         have p127 : 0 ≤ (x5_1 : Int) := of_decide_eq_true (by first | (with_reducible assumption) | assumption)
         have q127 : x5_1 < (l0.length : Int) := of_decide_eq_true (by first | (with_reducible assumption) | assumption)
         obtain ⟨ad127, e127, hx127_0, hx127_1⟩ := at_T31 HR0.out x5_1 p127 q127
         cases e127
         replace p127 := eq_true p127
         replace q127 := eq_true q127
         have p128 : 0 ≤ (x5_1 : Int) := of_decide_eq_true (by first | (with_reducible assumption) | assumption)
         have q128 : x5_1 < (l0.length : Int) := of_decide_eq_true (by first | (with_reducible assumption) | assumption)
         obtain ⟨ad128, e128, hx128_0, hx128_1⟩ := at_T31 HR0.out x5_1 p128 q128
         obtain rfl : ad127 = ad128 := (by injection e128)
         replace p128 := eq_true p128
         replace q128 := eq_true q128
         go_wp2
         go_ret
         exact ⟨by first | rfl | (simp; done) | (simp [*]; done), (by repeat (first | exact Drawn0.refl _ | apply Drawn0.step))⟩
        ·rw [if_neg c8] at H
         have c8b0 : decide (a1 ≤ ((rd_T31 l0 x5_1).f1)) = false := decide_eq_false c8
         clear c8
         have H' := Aside0.mk H
         clear H
         have p127 : 0 ≤ (x5_1 : Int) := of_decide_eq_true (by first | (with_reducible assumption) | assumption)
         have q127 : x5_1 < (l0.length : Int) := of_decide_eq_true (by first | (with_reducible assumption) | assumption)
         obtain ⟨ad127, e127, hx127_0, hx127_1⟩ := at_T31 HR0.out x5_1 p127 q127
         cases e127
         replace p127 := eq_true p127
         replace q127 := eq_true q127
         have p128 : 0 ≤ (x5_1 : Int) := of_decide_eq_true (by first | (with_reducible assumption) | assumption)
         have q128 : x5_1 < (l0.length : Int) := of_decide_eq_true (by first | (with_reducible assumption) | assumption)
         obtain ⟨ad128, e128, hx128_0, hx128_1⟩ := at_T31 HR0.out x5_1 p128 q128
         obtain rfl : ad127 = ad128 := (by injection e128)
         replace p128 := eq_true p128
         replace q128 := eq_true q128
         go_wp2
         go_roundg k1
         case measure => have := HK1.out; omega
         case rel => exact ⟨(wrap64 (x5_1 + 1)), (by first | rfl | (simp; done) | (simp [*]; done)), H', ⟨by have := HK1.out; omega⟩, (by repeat (first | exact Drawn0.refl _ | apply Drawn0.step))⟩
       ·rw [if_neg c7] at H
        have c7b0 : decide (((rd_T31 l0 x5_1).f0) ≤ a1) = false := decide_eq_false c7
        clear c7
        have H' := Aside0.mk H
        clear H
        have p127 : 0 ≤ (x5_1 : Int) := of_decide_eq_true (by first | (with_reducible assumption) | assumption)
        have q127 : x5_1 < (l0.length : Int) := of_decide_eq_true (by first | (with_reducible assumption) | assumption)
        obtain ⟨ad127, e127, hx127_0, hx127_1⟩ := at_T31 HR0.out x5_1 p127 q127
        cases e127
        replace p127 := eq_true p127
        replace q127 := eq_true q127
        go_wp2
        go_roundg k1
        case measure => have := HK1.out; omega
        case rel => exact ⟨(wrap64 (x5_1 + 1)), (by first | rfl | (simp; done) | (simp [*]; done)), H', ⟨by have := HK1.out; omega⟩, (by repeat (first | exact Drawn0.refl _ | apply Drawn0.step))⟩
      ·rw [if_neg c6] at H
       exact absurd H (by simp)
     ·rw [if_neg c5] at H
      have c5b0 : decide (a1 < 16384) = false := decide_eq_false c5
      clear c5
      have H' := Aside0.mk H
      clear H
      go_wp2
      go_roundg k1
      case measure => have := HK1.out; omega
      case rel => exact ⟨(wrap64 (x5_1 + 1)), (by first | rfl | (simp; done) | (simp [*]; done)), H', ⟨by have := HK1.out; omega⟩, (by repeat (first | exact Drawn0.refl _ | apply Drawn0.step))⟩
    ·rw [if_neg c4] at H
     have c4b0 : decide (0 ≤ a1) = false := decide_eq_false c4
     clear c4
     have H' := Aside0.mk H
     clear H
     go_wp2
     go_roundg k1
     case measure => have := HK1.out; omega
     case rel => exact ⟨(wrap64 (x5_1 + 1)), (by first | rfl | (simp; done) | (simp [*]; done)), H', ⟨by have := HK1.out; omega⟩, (by repeat (first | exact Drawn0.refl _ | apply Drawn0.step))⟩
   ·rw [if_neg c3] at H
    have c3b0 : decide (x5_1 < (l0.length : Int)) = false := decide_eq_false c3
    clear c3
    obtain rfl := Option.some.inj H
    go_wp2
    go_ret
    exact ⟨by first | rfl | (simp; done) | (simp [*]; done), (by repeat (first | exact Drawn0.refl _ | apply Drawn0.step))⟩

end Go.Proofs.YtnlakdpfkgjdaaaDoor.G

/- spans.Has over the library's ContainsFunc. Condition: a bound on the list's length. -/
namespace Go.Proofs.YtnlakdpfkgjdaaaDoor.G
open Go.RowKit Go.Cav Go.Proofs.YtnlakdpfkgjdaaaDoorW.PrintWords Go.Proofs.YtnlakdpfkgjdaaaDoorW.PrintLast Go.Proofs.YtnlakdpfkgjdaaaDoorW.PrintMore
attribute [local go_sem] Oper.semAt_some
/-- the first place at which p holds, or -1 -/
def idxI {α : Type} (p : α → Bool) (l : List α) : Int := match l.findIdx? p with
  | some i => (i : Int)
  | none => -1
theorem idxI_hit {α : Type} (p : α → Bool) (l : List α) (j : Nat) (x : α) (hx : l[j]? = some x) (hp : p x = true) (hn : ∀ i, i < j → ∀ y, l[i]? = some y → p y = false) : idxI p l = (j : Int) := by
  obtain ⟨hj, rfl⟩ := List.getElem?_eq_some_iff.1 hx
  have h : l.findIdx? p = some j := List.findIdx?_eq_some_iff_getElem.2 ⟨hj, hp, fun i hi => by simpa using hn i hi l[i] (List.getElem?_eq_getElem (by omega))⟩
  unfold idxI; rw [h]
theorem idxI_miss {α : Type} (p : α → Bool) (l : List α) (hn : ∀ i, i < l.length → ∀ y, l[i]? = some y → p y = false) : idxI p l = -1 := by
  have h : l.findIdx? p = none := List.findIdx?_eq_none_iff.2 fun x hx => by
    obtain ⟨i, hi, rfl⟩ := List.mem_iff_getElem.1 hx
    exact hn i hi _ (List.getElem?_eq_getElem hi)
  unfold idxI; rw [h]
theorem idxI_any {α : Type} (p : α → Bool) (l : List α) : decide (0 ≤ idxI p l) = l.any p := by
  unfold idxI
  cases h : l.findIdx? p with
  | none =>
    have h1 := List.findIdx?_eq_none_iff.1 h
    have : l.any p = false := by rw [List.any_eq_false]; intro x hx e; rw [h1 x hx] at e; cases e
    rw [this]; rfl
  | some i =>
    obtain ⟨hi, hp, _⟩ := List.findIdx?_eq_some_iff_getElem.1 h
    have : l.any p = true := List.any_eq_true.2 ⟨_, List.getElem_mem hi, hp⟩
    rw [this]; simp
set_option maxRecDepth 100000 in
set_option maxHeartbeats 4000000 in
theorem indexF_spans (g : Nat) (lb : Array Value) (p : S31 → Bool) (eg : ∀ args w, (callFunc g args).run Tryd.prog w = .ok (.enter g args) w) (A : Option Addr) (c : Nat) (l : List S31) (w : World) (hs : l.length ≤ 9000000000000000000)
    (hp : ∀ x : S31, ∀ w', Below w.heap.size w w' → Calls Tryd.prog g (#[.agg #[.int .i64 x.f0, .int .i64 x.f1]] ++ lb) w' fun e w'' => e = .returned (.bool (p x)) ∧ Below w'.heap.size w' w'')
    (hr : Kd.C k31 w A l.length l) :
    Calls Tryd.prog 49 #[.slice A l.length c, .func (.func g) #[] lb] w fun e w' => e = .returned (.int .i64 (idxI p l)) ∧ Below w.heap.size w w' := by
  have HR := Lib.hid hr
  have HP := Lib.hid hp
  clear hr hp
  go_enter Tryd.func49, Tryd.ntmps49
  go_wp2
  go_loopw [8] (fun i wr => ∃ j : Nat, j ≤ l.length ∧ i = .int .i64 (j : Int) ∧ Below w.heap.size w wr ∧ Hid (∀ i, i < j → ∀ y, l[i]? = some y → p y = false)) (fun i _ => l.length - (intOf i).toNat)
  case atStart => exact ⟨0, by omega, rfl, Below.refl _ _, Lib.hid (fun i h => absurd h (Nat.not_lt_zero _))⟩
  case round =>
    obtain ⟨j, hj, rfl, hB, hn⟩ := hrel
    by_cases hlt : j < l.length
    · obtain ⟨ad, rfl, e0, e1⟩ := at_T31 HR.out (j : Int) (by omega) (by omega)
      rw [Int.toNat_natCast] at e0 e1
      have hk2 : rd_T31 l (j : Int) = l[j] := by unfold rd_T31; simp [hlt]
      rw [hk2] at e0 e1
      replace e0 := (Stir.of_below hB (fun _ => False)).cell e0 (fun e => e)
      replace e1 := (Stir.of_below hB (fun _ => False)).cell e1 (fun e => e)
      have hx : l[j]? = some l[j] := List.getElem?_eq_getElem hlt
      have hcall := HP.out l[j] _ hB
      have HX := Lib.hid hx
      have HB := Lib.hid hB
      clear hx hB hk2
      have hltz : (j : Int) < (l.length : Int) := by omega
      generalize l[j] = x at e0 e1 hcall HX
      cases hq : p x with
      | true =>
        rw [hq] at hcall
        have HQ := Lib.hid hq
        clear hq
        go_wp2_with (go_at_fn g; refine hcall.mono ?_; rintro e w' ⟨rfl, hb⟩)
        go_ret
        exact ⟨by rw [idxI_hit p l j x HX.out HQ.out hn.out]; rfl, HB.out.trans (hb.mono HB.out.size)⟩
      | false =>
        rw [hq] at hcall
        have HQ := Lib.hid hq
        clear hq
        go_wp2_with (go_at_fn g; refine hcall.mono ?_; rintro e w' ⟨rfl, hb⟩)
        go_roundw
        case rel =>
          refine ⟨j + 1, by omega, by simp, HB.out.trans (hb.mono HB.out.size), Lib.hid (fun i hi y hy => ?_)⟩
          by_cases e : i = j
          · subst e; rw [HX.out] at hy; cases hy; exact HQ.out
          · exact hn.out i (by omega) y hy
        case measure => simp [intOf]; omega
    · have hltz : ¬ (j : Int) < (l.length : Int) := by omega
      obtain rfl : j = l.length := by omega
      have HB := Lib.hid hB
      clear hB
      go_wp2
      go_ret
      exact ⟨by rw [idxI_miss p l hn.out]; rfl, HB.out⟩
set_option maxRecDepth 100000 in
set_option maxHeartbeats 4000000 in
theorem containsF_spans (g : Nat) (lb : Array Value) (p : S31 → Bool) (eg : ∀ args w, (callFunc g args).run Tryd.prog w = .ok (.enter g args) w) (A : Option Addr) (c : Nat) (l : List S31) (w : World) (hs : l.length ≤ 9000000000000000000)
    (hp : ∀ x : S31, ∀ w', Below w.heap.size w w' → Calls Tryd.prog g (#[.agg #[.int .i64 x.f0, .int .i64 x.f1]] ++ lb) w' fun e w'' => e = .returned (.bool (p x)) ∧ Below w'.heap.size w' w'')
    (hr : Kd.C k31 w A l.length l) :
    Calls Tryd.prog 33 #[.slice A l.length c, .func (.func g) #[] lb] w fun e w' => e = .returned (.bool (l.any p)) ∧ Below w.heap.size w w' := by
  have hI := indexF_spans g lb p eg A c l w hs hp hr
  have hA := idxI_any p l
  generalize idxI p l = n at hI hA
  have HA := Lib.hid hA
  clear hr hp hA
  go_enter Tryd.func33, Tryd.ntmps33
  go_wp2_with (go_at_call 49; refine hI.mono ?_; rintro e w1 ⟨rfl, hb⟩)
  go_ret
  exact ⟨by rw [← HA.out]; rfl, hb⟩
set_option maxRecDepth 100000 in
set_option maxHeartbeats 4000000 in
theorem has1_calls (s : S31) (n : Int) (bx : Addr) (w : World) (hx : w.cell? bx = some (.int .i64 n)) :
    Calls Tryd.prog 34 #[.agg #[.int .i64 s.f0, .int .i64 s.f1], .pointer (some bx)] w fun e w' => e = .returned (.bool (decide (s.f0 ≤ n) && decide (n ≤ s.f1))) ∧ Below w.heap.size w w' := by
  obtain ⟨x0, x1⟩ := s
  have hx2 := ((Below.refl w.heap.size w).alloc (Nat.le_refl _) (.cells #[.int .i64 x0, .int .i64 x1] 31))
  have hx3 := (Stir.of_below hx2 (fun _ => False)).cell hx (fun e => e)
  have HB := Lib.hid hx2
  clear hx2
  by_cases h : x0 ≤ n
  · have hd : decide (x0 ≤ n) = true := decide_eq_true h
    go_enter Tryd.func34, Tryd.ntmps34
    go_wp2
    go_ret
    exact ⟨by simp [hd], HB.out⟩
  · have hd : decide (x0 ≤ n) = false := decide_eq_false h
    go_enter Tryd.func34, Tryd.ntmps34
    go_wp2
    go_ret
    exact ⟨by simp, HB.out⟩
set_option maxRecDepth 100000 in
set_option maxHeartbeats 4000000 in
theorem has_any (A0 : Option Addr) (c0 : Nat) (l0 : List S31) (n : Int) (w : World) (hr0 : Kd.C k31 w A0 l0.length l0) (h0 : l0.length ≤ 1000000000) :
    Calls Tryd.prog 18 #[.slice A0 l0.length c0, .int .i64 n] w fun e w' => e = .returned (.bool (sayS l0 n)) ∧ Below w.heap.size w w' := by
  have hb0 : Below w.heap.size w (w.alloc (.cells #[.int .i64 n] 3)) := (Below.refl w.heap.size w).alloc (Nat.le_refl _) _
  have hnew : (w.alloc (.cells #[.int .i64 n] 3)).cell? ⟨w.heap.size, 0, none⟩ = some (.int .i64 n) := (cell_of_row _ _ 0 _ _ _ (heap_alloc_new w _)).trans rfl
  have hS := said_any A0 c0 l0 _ (Kd.C_below hr0 hb0) h0
  have hv : sayS l0 n = (pdqS (cutS l0)).any (fun s => decide (s.f0 ≤ n) && decide (n ≤ s.f1)) := by
    rw [← has_cut]
    exact has_mem _ _ (fun x => ((pdqS_spec (cutS l0)).2.1 x).symm) n
  have hlen : (pdqS (cutS l0)).length ≤ 1000000000 := by rw [(pdqS_spec (cutS l0)).1]; exact Nat.le_trans (cutS_len l0) h0
  generalize pdqS (cutS l0) = d at hS hv hlen
  have HV := Lib.hid hv
  have HB0 := Lib.hid hb0
  have HN := Lib.hid hnew
  clear hr0 h0 hv hb0 hnew
  go_enter Tryd.func18, Tryd.ntmps18
  go_wp2_with fail
  refine hS.mono ?_
  rintro e w1 ⟨v1, rfl, hVV, hb1⟩
  have hc1 := (Stir.of_below hb1 (fun _ => False)).cell HN.out (fun e => e)
  obtain ⟨A1, c1, rfl⟩ := Kd.V_slice hVV
  have hC := containsF_spans 34 #[.pointer (some ⟨w.heap.size, 0, none⟩)] _ (enters_of Tryd.func34 (by kernel_rfl) rfl) A1 c1 d w1 (by omega)
    (fun x w2 h2 => has1_calls x n ⟨w.heap.size, 0, none⟩ w2 ((Stir.of_below h2 (fun _ => False)).cell hc1 (fun e => e))) (Kd.V_reads' hVV).2.2
  have HB1 := Lib.hid (HB0.out.trans (hb1.mono HB0.out.size))
  clear hS hVV hb1 HB0 HN
  go_wp2_with fail
  refine hC.mono ?_
  rintro e w2 ⟨rfl, hb2⟩
  have HB2 := Lib.hid (HB1.out.trans (hb2.mono HB1.out.size))
  clear hC hb2 HB1 hc1
  go_wp2
  go_ret
  exact ⟨by rw [HV.out]; rfl, HB2.out⟩
def spans_Has.f (l0 : List S31) (a1 : Int) : Option Bool := if l0.length ≤ 1000000000 then some (sayS l0 a1) else none
theorem spans_Has.calls (A0 : Option Addr) (c0 : Nat) (l0 : List S31) (a1 : Int) (r : Bool) (w : World) (hr0 : Kd.C k31 w A0 l0.length l0) (_hc0 : l0.length ≤ c0) (h : spans_Has.f l0 a1 = some r) :
    Calls Tryd.prog 18 #[.slice A0 l0.length c0, .int .i64 a1] w fun e w' => e = .returned (.bool r) ∧ Below w.heap.size w w' := by
  unfold spans_Has.f at h
  split at h
  case isFalse => cases h
  case isTrue hb =>
    obtain rfl := Option.some.inj h
    exact has_any A0 c0 l0 a1 w hr0 hb
end Go.Proofs.YtnlakdpfkgjdaaaDoor.G

/- spans.Count, and the document's example. Conditions: a bound on the list's length. -/
namespace Go.Proofs.YtnlakdpfkgjdaaaDoor.G
open Go.RowKit Go.Cav Go.Proofs.YtnlakdpfkgjdaaaDoorW.PrintWords Go.Proofs.YtnlakdpfkgjdaaaDoorW.PrintLast Go.Proofs.YtnlakdpfkgjdaaaDoorW.PrintMore
theorem count_loop (l : List S31) (hl : l.length ≤ 1000000000) (hin : ∀ s ∈ l, 0 ≤ s.f0 ∧ s.f0 ≤ s.f1 ∧ s.f1 ≤ 16383) : ∀ n j k (a : Int), j + n = l.length → 0 ≤ a → a ≤ 16384 * (j : Int) → spans_Count.l0 (k + n + 1) a l (l.length : Int) (j : Int) = some (a + widS (l.drop j))
  | 0, j, k, a, hj, h0, h1 => by
    rw [spans_Count.l0, if_neg (by omega), List.drop_of_length_le (by omega)]
    exact congrArg some (by show a = a + 0; omega)
  | n + 1, j, k, a, hj, h0, h1 => by
    have hlt : j < l.length := by omega
    have hs := hin l[j] (List.getElem_mem hlt)
    have ew : wrap64 ((j : Int) + 1) = ((j + 1 : Nat) : Int) := by rw [w64 _ (by omega) (by omega)]; omega
    rw [show k + (n + 1) + 1 = (k + n + 1) + 1 by omega, spans_Count.l0, if_pos (by omega), if_pos (by omega), if_pos (by omega), rd_at l j hlt, ew, List.drop_eq_getElem_cons hlt]
    rw [w64 (l[j].f1 - l[j].f0) (by omega) (by omega), w64 (l[j].f1 - l[j].f0 + 1) (by omega) (by omega), w64 (a + (l[j].f1 - l[j].f0 + 1)) (by omega) (by omega), count_loop l hl hin n (j + 1) k _ (by omega) (by omega) (by omega)]
    exact congrArg some (by show _ = a + (l[j].f1 - l[j].f0 + 1 + widS (l.drop (j + 1))); omega)
theorem count_f (l : List S31) (hl : l.length ≤ 1000000000) (k : Nat) : spans_Count.f (k + l.length + 1) l = some (widS (normS l)) := by
  have hn := normS_len l
  unfold spans_Count.f
  rw [norm_f l hl k, Option.bind_some]
  have h := count_loop (normS l) (by omega) (mayF_in (norm_spec l).1 (by omega)) (normS l).length 0 (k + l.length - (normS l).length) 0 (by omega) (by omega) (by omega)
  rw [show k + l.length - (normS l).length + (normS l).length + 1 = k + l.length + 1 by omega] at h
  rw [show ((0 : Nat) : Int) = 0 from rfl, List.drop_zero, Int.zero_add] at h
  exact h
instance decEqSp : DecidableEq S31 := fun x y =>
  if h : x.f0 = y.f0 ∧ x.f1 = y.f1 then .isTrue (by cases x; cases y; obtain ⟨h1, h2⟩ := h; cases h1; cases h2; rfl) else .isFalse (fun e => h (by rw [e]; exact ⟨rfl, rfl⟩))
theorem awake_read : readP ⟨#[48, 45, 53, 44, 55]⟩ = ([⟨0, 5⟩, ⟨7, 7⟩], true) := by
  decide +kernel
theorem awake_ok (k : Nat) : caravanlaw2_awake.f (k + 3) = some true := by
  unfold caravanlaw2_awake.f
  have h1 : spans_Read.f (⟨#[48, 45, 53, 44, 55]⟩ : ByteArray) = some ([⟨0, 5⟩, ⟨7, 7⟩], true) := by
    unfold spans_Read.f
    rw [if_pos (by decide), awake_read]
  have h2 : spans_Text.f (k + 3) [(⟨7, 7⟩ : S31), ⟨0, 5⟩] = some (textS [(⟨7, 7⟩ : S31), ⟨0, 5⟩]) := text_f [(⟨7, 7⟩ : S31), ⟨0, 5⟩] (by decide) k
  have h3 : spans_Count.f (k + 3) [(⟨0, 5⟩ : S31), ⟨7, 7⟩] = some (widS (normS [(⟨0, 5⟩ : S31), ⟨7, 7⟩])) := count_f [(⟨0, 5⟩ : S31), ⟨7, 7⟩] (by decide) k
  have h4 : (textS [(⟨7, 7⟩ : S31), ⟨0, 5⟩]).toList = [48, 45, 53, 44, 55] := by decide +kernel
  have h5 : widS (normS [(⟨0, 5⟩ : S31), ⟨7, 7⟩]) = 7 := by decide +kernel
  rw [h1, Option.bind_some, if_pos rfl, if_pos (by decide), h2, Option.bind_some, if_pos h4, h3, Option.bind_some, h5]
  rfl
end Go.Proofs.YtnlakdpfkgjdaaaDoor.G

/- What functions of the translation come to, and their calls' proofs; by a program of mine over the kit's print, with contracts given by hand beside. Conditions: where a plain function tells none, nothing is said. -/
namespace Go.Proofs.YtnlakdpfkgjdaaaDoor.G
open Go.RowKit Go.Proofs.YtnlakdpfkgjdaaaDoorW.PrintWords Go.Proofs.YtnlakdpfkgjdaaaDoorW.PrintLast Go.Proofs.YtnlakdpfkgjdaaaDoorW.PrintMore
attribute [local go_sem] max2_int min2_int max_two min_two max_three min_three max_four min_four   -- for this text's walks alone
set_option linter.unusedVariables false
set_option linter.unusedSimpArgs false

/-! ### caravanref1_marks: function 38 -/
mutual
def caravanref1_marks.l0 : Nat → List (S31) → List (S31) → List Int → Int → Option (List Int)
 | 0, _, _, _, _ => none
 | k + 1, x0, x1, x5, x6 => if x6 < (wrap64 ((x0.length : Int) + (x1.length : Int))) then (if x6 < (x0.length : Int) then (if 0 ≤ x6 then (caravanref1_marks.j1 k x0 x1 x5 x6 ((rd_T31 x0 x6).f0) ((rd_T31 x0 x6).f1)) else (none)) else (if 0 ≤ (wrap64 (x6 - (x0.length : Int))) then (if (wrap64 (x6 - (x0.length : Int))) < (x1.length : Int) then (caravanref1_marks.j1 k x0 x1 x5 x6 ((rd_T31 x1 (wrap64 (x6 - (x0.length : Int)))).f0) ((rd_T31 x1 (wrap64 (x6 - (x0.length : Int)))).f1)) else (none)) else (none))) else (some x5)
def caravanref1_marks.j1 : Nat → List (S31) → List (S31) → List Int → Int → Int → Int → Option (List Int)
 | 0, _, _, _, _, _, _ => none
 | k + 1, x0, x1, x5, x6, x216000, x216001 => if x216000 ≤ x216001 then ((caravanref1_Mark.f k x5 x216000).bind fun t218 => (if x216001 < 16384 then ((caravanref1_Mark.f k t218 (wrap64 (x216001 + 1))).bind fun t221 => (caravanref1_marks.l0 k x0 x1 t221 (wrap64 (x6 + 1)))) else (caravanref1_marks.l0 k x0 x1 t218 (wrap64 (x6 + 1))))) else (caravanref1_marks.l0 k x0 x1 x5 (wrap64 (x6 + 1)))
end
def caravanref1_marks.f (k : Nat) (l0 : List (S31)) (l1 : List (S31)) : Option (List Int) := caravanref1_marks.l0 k l0 l1 (([0, 16384] : List Int)) 0
theorem caravanref1_marks.mono_l : ∀ k, (∀ y0 y1 y2 y3, LeO (caravanref1_marks.l0 k y0 y1 y2 y3) (caravanref1_marks.l0 (k + 1) y0 y1 y2 y3)) ∧ (∀ y0 y1 y2 y3 y4 y5, LeO (caravanref1_marks.j1 k y0 y1 y2 y3 y4 y5) (caravanref1_marks.j1 (k + 1) y0 y1 y2 y3 y4 y5))
 | 0 => ⟨fun _ _ _ _ r h => by simp [caravanref1_marks.l0] at h, fun _ _ _ _ _ _ r h => by simp [caravanref1_marks.j1] at h⟩
 | k + 1 => by
  obtain ⟨ih0, ih1⟩ := caravanref1_marks.mono_l k
  refine ⟨?_, ?_⟩
  ·intro y0 y1 y2 y3
   unfold caravanref1_marks.l0
   repeat' first
   | (with_reducible exact ih0 _ _ _ _)
   | (with_reducible exact ih1 _ _ _ _ _ _)
   | (with_reducible exact caravanref1_Mark.mono _ _ _)
   | (with_reducible exact LeO.refl _)
   | (with_reducible exact LeO.none _)
   | (with_reducible refine LeO.ite ?_ ?_)
   | (with_reducible refine LeO.bind ?_ (fun _ => ?_))
   | exact ih0 _ _ _ _
   | exact ih1 _ _ _ _ _ _
   | exact caravanref1_Mark.mono _ _ _
   | exact LeO.none _
   | refine LeO.ite ?_ ?_
   | refine LeO.bind ?_ (fun _ => ?_)
  ·intro y0 y1 y2 y3 y4 y5
   unfold caravanref1_marks.j1
   repeat' first
   | (with_reducible exact ih0 _ _ _ _)
   | (with_reducible exact ih1 _ _ _ _ _ _)
   | (with_reducible exact caravanref1_Mark.mono _ _ _)
   | (with_reducible exact LeO.refl _)
   | (with_reducible exact LeO.none _)
   | (with_reducible refine LeO.ite ?_ ?_)
   | (with_reducible refine LeO.bind ?_ (fun _ => ?_))
   | exact ih0 _ _ _ _
   | exact ih1 _ _ _ _ _ _
   | exact caravanref1_Mark.mono _ _ _
   | exact LeO.none _
   | refine LeO.ite ?_ ?_
   | refine LeO.bind ?_ (fun _ => ?_)
theorem caravanref1_marks.mono : ∀ a0 a1 k, LeO (caravanref1_marks.f k a0 a1) (caravanref1_marks.f (k + 1) a0 a1) := by
 intro a0 a1 k
 obtain ⟨ih0, ih1⟩ := caravanref1_marks.mono_l k
 unfold caravanref1_marks.f
 repeat' first
  | (with_reducible exact ih0 _ _ _ _)
  | (with_reducible exact ih1 _ _ _ _ _ _)
  | (with_reducible exact caravanref1_Mark.mono _ _ _)
  | (with_reducible exact LeO.refl _)
  | (with_reducible exact LeO.none _)
  | (with_reducible refine LeO.ite ?_ ?_)
  | (with_reducible refine LeO.bind ?_ (fun _ => ?_))
  | exact ih0 _ _ _ _
  | exact ih1 _ _ _ _ _ _
  | exact caravanref1_Mark.mono _ _ _
  | exact LeO.none _
  | refine LeO.ite ?_ ?_
  | refine LeO.bind ?_ (fun _ => ?_)
set_option maxHeartbeats 8000000 in
set_option maxRecDepth 100000 in
theorem caravanref1_marks.calls (k : Nat) (A0 : Option Addr) (c0 : Nat) (l0 : List (S31)) (A1 : Option Addr) (c1 : Nat) (l1 : List (S31)) (r : List Int) (w : World) (hr0 : Kd.C k31 w A0 l0.length l0) (hc0 : l0.length ≤ c0) (hr1 : Kd.C k31 w A1 l1.length l1) (hc1 : l1.length ≤ c1) (h : caravanref1_marks.f k l0 l1 = some r) :
 Calls Tryd.prog 38 #[.slice A0 l0.length c0, .slice A1 l1.length c1] w fun e w' => ∃ v0_ : Value, e = .returned (v0_) ∧ Kd.R (Kd.int .i64) 3 w' w.heap.size (fun _ => True) v0_ r ∧ Below w.heap.size w w' := by
 have hu31 := Tryd.underlying31
 have HR0 := Aside0.mk hr0
 have HC0 := Aside0.mk hc0
 clear hr0 hc0
 have HR1 := Aside0.mk hr1
 have HC1 := Aside0.mk hc1
 clear hr1 hc1
 have HB := Aside0.mk (Below.refl w.heap.size w)
 have H : (caravanref1_marks.l0 k l0 l1 (([0, 16384] : List Int)) 0) = some r := h
 clear h
 obtain ⟨y212, hy212⟩ : ∃ y_ : List Int, y_ = (([0, 16384] : List Int)) := ⟨_, rfl⟩
 replace H : (caravanref1_marks.l0 k l0 l1 y212 0) = some r := by first | (rw [hy212]; with_reducible exact H) | (have H2_ := (Option.bind_some _ _).symm.trans H; rw [hy212]; with_reducible exact H2_) | (have H2_ := (Option.bind_some _ _).symm.trans H; with_reducible exact H2_) | with_reducible exact H | (rw [hy212]; exact H) | exact H
 have Ny212 := Aside0.mk hy212
 clear hy212
 have H' := Aside0.mk H
 clear H
 go_enter Tryd.func38, Tryd.ntmps38
 go_wp2_with (first | ((with_reducible refine gate_dst (N := 8) rfl ?_); refine Kd.R_lit (Kd.int .i64) _ 3 ?hg (N := 8) ?hd (xs := ([0, 16384] : List Int)) (inner := [.int .i64 0, .int .i64 16384]) (ok := fun _ => True) (okp := fun _ => True) ?hr ?hp (fun _ hk => hk) trivial (Below.refl _ _) (Nat.le_refl _) (by simp) ?_; (case hd => rfl); (case hg => rfl); (case hr => first | (go_simp; done) | (go_simp; rfl)); (case hp => exact (Reps.one (show Kd.M (Kd.int .i64) _ _ _ 0 [.int .i64 0] from rfl) (Reps.one (show Kd.M (Kd.int .i64) _ _ _ 16384 [.int .i64 16384] from rfl) (Reps.none _ _)))); intro v213 w3 ho4 hb hg_ hnew_; clear hg_ hnew_; (first | rw [← Ny212.out] at ho4 | (simp only [Int.reduceToNat] at ho4; rw [← Ny212.out] at ho4)); have n0_ := Aside0.mk (Kd.R_lower ho4 (below_size (qdb35_ HB.out))); have n1_ := Aside0.mk (below_step (qdb35_ HB.out) hb); clear HB; have HO214 := n0_; have HB := n1_; clear n0_ n1_; clear hb ho4))
 go_loopg [5, 6] k (fun kq v5 v6 w' => ∃ (x5_1 : List Int) (x6_1 : Int), v6 = .int .i64 x6_1 ∧ Aside0 (caravanref1_marks.l0 kq l0 l1 x5_1 x6_1 = some r) ∧ Aside0 (kq ≤ k) ∧ Aside0 (Kd.R (Kd.int .i64) 3 w' w.heap.size (fun _ => True) v5 x5_1) ∧ Aside0 (Below w.heap.size w w'))
 case atStart => exact ⟨(y212), (0), (by first | rfl | (simp; done) | (simp [*]; done)), H', ⟨Nat.le_refl _⟩, ⟨by (with_reducible repeat (first | apply Kd.R_alloc | apply Kd.R_drewN | apply Kd.R_drew)); exact HO214.out⟩, ⟨(qdb35_ HB.out)⟩⟩
 case round =>
  clear H'
  try clear c1
  try clear p2
  try clear c3
  obtain ⟨x5_1, x6_1, rfl, HA, HK1, HO_5, HB⟩ := hrel
  cases gk with
  | zero => exact absurd HA.out (by simp [caravanref1_marks.l0])
  | succ k1 =>
   have H := HA.out
   clear HA
   simp only [caravanref1_marks.l0] at H
   by_cases c5 : x6_1 < (wrap64 ((l0.length : Int) + (l1.length : Int)))
   ·rw [if_pos c5] at H
    have c5b0 : decide (x6_1 < (wrap64 ((l0.length : Int) + (l1.length : Int)))) = true := decide_eq_true c5
    clear c5
    have HC6 := Aside0.mk H
    clear H
    go_upto_if 22 with (first | ((with_reducible refine gate_dst (N := 7) rfl ?_); refine box_event ?hg (N := 7) ?hd (cs := #[.int .i64 0, .int .i64 0]) (t := 31) ?hr ?_; (case hd => rfl); (case hg => rfl); (case hr => first | (go_simp; done) | (go_simp; rfl)); intro gb215 hg w7 hbox hb; have n0_ := Aside0.mk (Kd.R_below (q8524_ HO_5.out) hb); have n1_ := Aside0.mk (below_step (qdb35_ HB.out) hb); have n2_ := Aside0.mk (hbox); have n3_ := Aside0.mk ((by rw [hg]; exact (below_size (qdb35_ HB.out)) : w.heap.size ≤ gb215)); have n4_ := Aside0.mk ((by rw [hg]; exact (below_size (qdb35_ HB.out)) : w.heap.size ≤ gb215)); clear HO_5; clear HB; have HO_5 := n0_; have HB := n1_; have BK215 := n2_; have GW215 := n3_; have GE215 := n4_; clear n0_ n1_ n2_ n3_ n4_; clear hb hbox hg; have hcz8_0 : w7.cell? ⟨gb215, 0, none⟩ = some (.int .i64 0) := (blk_cell BK215.out 0).trans rfl; have hcz8_1 : w7.cell? ⟨gb215, 1, none⟩ = some (.int .i64 0) := (blk_cell BK215.out 1).trans rfl; have hfz8_0 := blk_frozen BK215.out 0; have hfz8_1 := blk_frozen BK215.out 1))
    (try simp only [Act.put, List.setIfInBounds_toArray, List.set_cons_zero, List.set_cons_succ])
    go_cut [] (fun wc => ∃ (kq : Nat) (x216000_5 : Int) (x216001_5 : Int), Aside0 (caravanref1_marks.j1 kq l0 l1 x5_1 x6_1 x216000_5 x216001_5 = some r) ∧ Aside0 (kq ≤ k1) ∧ Aside0 (Kd.R (Kd.int .i64) 3 wc w.heap.size (fun _ => True) u5 x5_1) ∧ Aside0 (wc.heap[gb215]? = some (.cells #[.int .i64 x216000_5, .int .i64 x216001_5] 31 (0, 0))) ∧ Aside0 (Below w.heap.size w wc))
    case first =>
     have H := HC6.out
     clear HC6
     by_cases c9 : x6_1 < (l0.length : Int)
     ·rw [if_pos c9] at H
      have c9b0 : decide (x6_1 < (l0.length : Int)) = true := decide_eq_true c9
      clear c9
      (first | rw [c9b0] | (simp only [i64_w, i32_w]; rw [c9b0]) | skip)
      by_cases c10 : 0 ≤ x6_1
      ·rw [if_pos c10] at H
       have c10b0 : decide (0 ≤ x6_1) = true := decide_eq_true c10
       clear c10
       have H' := Aside0.mk H
       clear H
       have p216 : 0 ≤ (x6_1 : Int) := of_decide_eq_true (by first | (with_reducible assumption) | assumption)
       have q216 : x6_1 < (l0.length : Int) := of_decide_eq_true (by first | (with_reducible assumption) | assumption)
       obtain ⟨ad216, e216, hx216_0, hx216_1⟩ := at_T31 HR0.out x6_1 p216 q216
       cases e216
       have hn216_0 : ad216.block ≠ gb215 := Nat.ne_of_lt (Nat.lt_of_lt_of_le (by have := World.block_lt_of_cell? _ _ hx216_0; first | rwa [add_block] at this | exact this) GW215.out)
       have hn216_1 : ad216.block ≠ gb215 := Nat.ne_of_lt (Nat.lt_of_lt_of_le (by have := World.block_lt_of_cell? _ _ hx216_0; first | rwa [add_block] at this | exact this) GW215.out)
       replace hx216_0 := (HB.out.cell (World.block_lt_of_cell? w _ hx216_0)).trans hx216_0
       replace hx216_1 := (HB.out.cell (World.block_lt_of_cell? w _ hx216_1)).trans hx216_1
       replace hx216_0 := (cell_far (p := ⟨gb215, 0, none⟩) (by first | (rw [add_block]; exact hn216_0) | (show (Addr.add _ _).block ≠ _; rw [add_block]; exact hn216_0) | exact hn216_0) (.int .i64 0)).trans hx216_0
       replace hx216_1 := (cell_far (p := ⟨gb215, 0, none⟩) (by first | (rw [add_block]; exact hn216_0) | (show (Addr.add _ _).block ≠ _; rw [add_block]; exact hn216_0) | exact hn216_0) (.int .i64 0)).trans hx216_1
       replace hx216_0 := (cell_far (p := ⟨gb215, 1, none⟩) (by first | (rw [add_block]; exact hn216_1) | (show (Addr.add _ _).block ≠ _; rw [add_block]; exact hn216_1) | exact hn216_1) (.int .i64 0)).trans hx216_0
       replace hx216_1 := (cell_far (p := ⟨gb215, 1, none⟩) (by first | (rw [add_block]; exact hn216_1) | (show (Addr.add _ _).block ≠ _; rw [add_block]; exact hn216_1) | exact hn216_1) (.int .i64 0)).trans hx216_1
       clear hn216_0
       clear hn216_1
       replace p216 := eq_true p216
       replace q216 := eq_true q216
       have hcz11_0 : w7.cell? ⟨gb215, 0, none⟩ = some (.int .i64 0) := (blk_cell BK215.out 0).trans rfl
       have hcz11_1 : w7.cell? ⟨gb215, 1, none⟩ = some (.int .i64 0) := (blk_cell BK215.out 1).trans rfl
       have hfz11_0 := blk_frozen BK215.out 0
       have hfz11_1 := blk_frozen BK215.out 1
       go_wp2
       go_meet
       case rel => exact ⟨_, ((rd_T31 l0 x6_1).f0), ((rd_T31 l0 x6_1).f1), H', ⟨by have := HK1.out; first | omega | exact Nat.le_refl _⟩, ⟨by (with_reducible repeat (first | apply Kd.R_alloc | apply Kd.R_drewN | apply Kd.R_drew)); exact Kd.R_mono (Kd.R_far (p := ⟨gb215, 1, none⟩) (Kd.R_far (p := ⟨gb215, 0, none⟩) (Kd.R_far (p := ⟨gb215, 1, none⟩) (Kd.R_far (p := ⟨gb215, 0, none⟩) (Kd.R_types HO_5.out BK215.out (by decide)) (fun _ hk => hk.2) (.int .i64 0)) (fun _ hk => hk.2) (.int .i64 0)) (fun _ hk => hk.2) (.int .i64 ((rd_T31 l0 x6_1).f0))) (fun _ hk => hk.2) (.int .i64 ((rd_T31 l0 x6_1).f1))) (fun _ hk => trivial)⟩, ⟨by (with_reducible repeat (first | refine blk_drewN ?_ _ | refine blk_drew ?_ | refine blk_alloc ?_ _)); refine blk_put (cs := #[.int .i64 ((rd_T31 l0 x6_1).f0), .int .i64 0]) ?_ 1 _ rfl; (with_reducible repeat (first | refine blk_drewN ?_ _ | refine blk_drew ?_ | refine blk_alloc ?_ _)); refine blk_put (cs := #[.int .i64 0, .int .i64 0]) ?_ 0 _ rfl; (with_reducible repeat (first | refine blk_drewN ?_ _ | refine blk_drew ?_ | refine blk_alloc ?_ _)); refine blk_put (cs := #[.int .i64 0, .int .i64 0]) ?_ 1 _ rfl; (with_reducible repeat (first | refine blk_drewN ?_ _ | refine blk_drew ?_ | refine blk_alloc ?_ _)); refine blk_put (cs := #[.int .i64 0, .int .i64 0]) ?_ 0 _ rfl; (with_reducible repeat (first | refine blk_drewN ?_ _ | refine blk_drew ?_ | refine blk_alloc ?_ _)); exact BK215.out⟩, ⟨(qed14_ HB.out GE215.out)⟩⟩
      ·rw [if_neg c10] at H
       exact absurd H (by simp)
     ·rw [if_neg c9] at H
      have c9b0 : decide (x6_1 < (l0.length : Int)) = false := decide_eq_false c9
      clear c9
      (first | rw [c9b0] | (simp only [i64_w, i32_w]; rw [c9b0]) | skip)
      obtain ⟨ji12, hji12⟩ : ∃ j_ : Int, (wrap64 (x6_1 - (l0.length : Int))) = j_ := ⟨_, rfl⟩
      replace H : (if 0 ≤ (ji12) then (if (ji12) < (l1.length : Int) then (caravanref1_marks.j1 k1 l0 l1 x5_1 x6_1 ((rd_T31 l1 (ji12)).f0) ((rd_T31 l1 (ji12)).f1)) else (none)) else (none)) = some r := by first | (rw [hji12] at H; exact H) | (simp only [hji12] at H ⊢; exact H)
      have hji12w : (IntKind.i64.wrap (x6_1 - (l0.length : Int))) = ji12 := (i64_w _).trans hji12
      by_cases c13 : 0 ≤ (ji12)
      ·rw [if_pos c13] at H
       have c13b0 : decide (0 ≤ (ji12)) = true := decide_eq_true c13
       clear c13
       by_cases c14 : (ji12) < (l1.length : Int)
       ·rw [if_pos c14] at H
        have c14b0 : decide ((ji12) < (l1.length : Int)) = true := decide_eq_true c14
        clear c14
        have H' := Aside0.mk H
        clear H
        have p217 : 0 ≤ ((ji12) : Int) := of_decide_eq_true (by first | (with_reducible assumption) | assumption)
        have q217 : (ji12) < (l1.length : Int) := of_decide_eq_true (by first | (with_reducible assumption) | assumption)
        obtain ⟨ad217, e217, hx217_0, hx217_1⟩ := at_T31 HR1.out (ji12) p217 q217
        cases e217
        have hn217_0 : ad217.block ≠ gb215 := Nat.ne_of_lt (Nat.lt_of_lt_of_le (by have := World.block_lt_of_cell? _ _ hx217_0; first | rwa [add_block] at this | exact this) GW215.out)
        have hn217_1 : ad217.block ≠ gb215 := Nat.ne_of_lt (Nat.lt_of_lt_of_le (by have := World.block_lt_of_cell? _ _ hx217_0; first | rwa [add_block] at this | exact this) GW215.out)
        replace hx217_0 := (HB.out.cell (World.block_lt_of_cell? w _ hx217_0)).trans hx217_0
        replace hx217_1 := (HB.out.cell (World.block_lt_of_cell? w _ hx217_1)).trans hx217_1
        replace hx217_0 := (cell_far (p := ⟨gb215, 0, none⟩) (by first | (rw [add_block]; exact hn217_0) | (show (Addr.add _ _).block ≠ _; rw [add_block]; exact hn217_0) | exact hn217_0) (.int .i64 0)).trans hx217_0
        replace hx217_1 := (cell_far (p := ⟨gb215, 0, none⟩) (by first | (rw [add_block]; exact hn217_0) | (show (Addr.add _ _).block ≠ _; rw [add_block]; exact hn217_0) | exact hn217_0) (.int .i64 0)).trans hx217_1
        replace hx217_0 := (cell_far (p := ⟨gb215, 1, none⟩) (by first | (rw [add_block]; exact hn217_1) | (show (Addr.add _ _).block ≠ _; rw [add_block]; exact hn217_1) | exact hn217_1) (.int .i64 0)).trans hx217_0
        replace hx217_1 := (cell_far (p := ⟨gb215, 1, none⟩) (by first | (rw [add_block]; exact hn217_1) | (show (Addr.add _ _).block ≠ _; rw [add_block]; exact hn217_1) | exact hn217_1) (.int .i64 0)).trans hx217_1
        clear hn217_0
        clear hn217_1
        replace p217 := eq_true p217
        replace q217 := eq_true q217
        have hcz15_0 : w7.cell? ⟨gb215, 0, none⟩ = some (.int .i64 0) := (blk_cell BK215.out 0).trans rfl
        have hcz15_1 : w7.cell? ⟨gb215, 1, none⟩ = some (.int .i64 0) := (blk_cell BK215.out 1).trans rfl
        have hfz15_0 := blk_frozen BK215.out 0
        have hfz15_1 := blk_frozen BK215.out 1
        go_wp2
        go_meet
        case rel => exact ⟨_, ((rd_T31 l1 (ji12)).f0), ((rd_T31 l1 (ji12)).f1), H', ⟨by have := HK1.out; first | omega | exact Nat.le_refl _⟩, ⟨by (with_reducible repeat (first | apply Kd.R_alloc | apply Kd.R_drewN | apply Kd.R_drew)); exact Kd.R_mono (Kd.R_far (p := ⟨gb215, 1, none⟩) (Kd.R_far (p := ⟨gb215, 0, none⟩) (Kd.R_far (p := ⟨gb215, 1, none⟩) (Kd.R_far (p := ⟨gb215, 0, none⟩) (Kd.R_types HO_5.out BK215.out (by decide)) (fun _ hk => hk.2) (.int .i64 0)) (fun _ hk => hk.2) (.int .i64 0)) (fun _ hk => hk.2) (.int .i64 ((rd_T31 l1 (ji12)).f0))) (fun _ hk => hk.2) (.int .i64 ((rd_T31 l1 (ji12)).f1))) (fun _ hk => trivial)⟩, ⟨by (with_reducible repeat (first | refine blk_drewN ?_ _ | refine blk_drew ?_ | refine blk_alloc ?_ _)); refine blk_put (cs := #[.int .i64 ((rd_T31 l1 (ji12)).f0), .int .i64 0]) ?_ 1 _ rfl; (with_reducible repeat (first | refine blk_drewN ?_ _ | refine blk_drew ?_ | refine blk_alloc ?_ _)); refine blk_put (cs := #[.int .i64 0, .int .i64 0]) ?_ 0 _ rfl; (with_reducible repeat (first | refine blk_drewN ?_ _ | refine blk_drew ?_ | refine blk_alloc ?_ _)); refine blk_put (cs := #[.int .i64 0, .int .i64 0]) ?_ 1 _ rfl; (with_reducible repeat (first | refine blk_drewN ?_ _ | refine blk_drew ?_ | refine blk_alloc ?_ _)); refine blk_put (cs := #[.int .i64 0, .int .i64 0]) ?_ 0 _ rfl; (with_reducible repeat (first | refine blk_drewN ?_ _ | refine blk_drew ?_ | refine blk_alloc ?_ _)); exact BK215.out⟩, ⟨(qed14_ HB.out GE215.out)⟩⟩
       ·rw [if_neg c14] at H
        exact absurd H (by simp)
      ·rw [if_neg c13] at H
       exact absurd H (by simp)
    case rest =>
     clear HC6
     try clear c1
     try clear p2
     try clear q2
     try clear hx2
     try clear c3
     try clear c5
     try clear c5b0
     try clear p6
     try clear c9
     try clear c9b0
     try clear c10
     try clear c10b0
     try clear c13
     try clear c13b0
     try clear c14
     try clear c14b0
     try clear hcz11_0
     try clear hcz11_1
     try clear hcz15_0
     try clear hcz15_1
     try clear hcz8_0
     try clear hcz8_1
     try clear hfz11_0
     try clear hfz11_1
     try clear hfz15_0
     try clear hfz15_1
     try clear hfz8_0
     try clear hfz8_1
     try clear hx216_0
     try clear hx216_1
     try clear hx217_0
     try clear hx217_1
     try clear p2
     try clear p216
     try clear p217
     try clear q216
     try clear q217
     obtain ⟨kq, x216000_5, x216001_5, HA, HJ5, HO_5, BK215, HB⟩ := hcut
     cases kq with
     | zero => exact absurd HA.out (by simp [caravanref1_marks.j1])
     | succ kj5 =>
      have H := HA.out
      clear HA
      simp only [caravanref1_marks.j1] at H
      by_cases c16 : x216000_5 ≤ x216001_5
      ·rw [if_pos c16] at H
       have c16b0 : decide (x216000_5 ≤ x216001_5) = true := decide_eq_true c16
       clear c16
       replace H := Option.bind_eq_some_iff.mp H
       obtain ⟨t218, A170, H⟩ := H
       replace H : (if x216001_5 < 16384 then ((caravanref1_Mark.f kj5 t218 (wrap64 (x216001_5 + 1))).bind fun t221 => (caravanref1_marks.l0 kj5 l0 l1 t221 (wrap64 (x6_1 + 1)))) else (caravanref1_marks.l0 kj5 l0 l1 t218 (wrap64 (x6_1 + 1)))) = some r := H
       have A17 := Aside0.mk A170
       clear A170
       by_cases c18 : x216001_5 < 16384
       ·rw [if_pos c18] at H
        have c18b0 : decide (x216001_5 < 16384) = true := decide_eq_true c18
        clear c18
        replace H := Option.bind_eq_some_iff.mp H
        obtain ⟨t221, A190, H⟩ := H
        replace H : (caravanref1_marks.l0 kj5 l0 l1 t221 (wrap64 (x6_1 + 1))) = some r := H
        have A19 := Aside0.mk A190
        clear A190
        have H' := Aside0.mk H
        clear H
        have hcz20_0 : wc.cell? ⟨gb215, 0, none⟩ = some (.int .i64 x216000_5) := (blk_cell BK215.out 0).trans rfl
        have hcz20_1 : wc.cell? ⟨gb215, 1, none⟩ = some (.int .i64 x216001_5) := (blk_cell BK215.out 1).trans rfl
        have hfz20_0 := blk_frozen BK215.out 0
        have hfz20_1 := blk_frozen BK215.out 1
        obtain ⟨Ao21, co21, eo21⟩ := Kd.R_slice HO_5.out
        subst eo21
        go_wp2_with (first | ((with_reducible refine gate_callee (f := 55) rfl ?_); refine goesL_ (some 42) rfl rfl Tryd.func55 (by kernel_rfl) rfl #[.slice Ao21 x5_1.length co21, .int .i64 x216000_5] rfl qM_ ?_; (with_reducible refine (caravanref1_Mark.calls kj5 (fun k_ => some k_ = (.slice Ao21 x5_1.length co21 : Value).ownBlock) (.slice Ao21 x5_1.length co21) x5_1 x216000_5 t218 w _ ?side1 ?side2 A17.out).mono ?_); (case side1 => repeat (first | (with_reducible first | exact HB.out | apply below_alloc | apply pw_below_drewN | apply below_drew1 | refine below_set ?_ GE215.out) | exact HB.out)); (case side2 => exact Kd.R_tight rfl HO_5.out); rintro e w22 ⟨v219, rfl, ho0, hb, hkp⟩; refine ⟨_, rfl, ?_⟩; have n0_ := Aside0.mk (blk_kept (by (with_reducible repeat (first | refine blk_drewN ?_ _ | refine blk_drew ?_ | refine blk_alloc ?_ _)); exact BK215.out) hkp (fun hs_ => (fun e_ => (Kd.R_ne HO_5.out BK215.out (by decide)) e_) hs_)); have n1_ := Aside0.mk (Kd.R_mono (ok' := fun k_ => True) ho0 (fun k_ hk_ => trivial)); have n2_ := Aside0.mk (hb); clear BK215; clear HB; clear HO_5; have BK215 := n0_; have HO220 := n1_; have HB := n2_; clear n0_ n1_ n2_; (try clear hb); (try clear hkp); (try clear ho0); have hcz23_0 : w22.cell? ⟨gb215, 0, none⟩ = some (.int .i64 x216000_5) := (blk_cell BK215.out 0).trans rfl; have hcz23_1 : w22.cell? ⟨gb215, 1, none⟩ = some (.int .i64 x216001_5) := (blk_cell BK215.out 1).trans rfl; have hfz23_0 := blk_frozen BK215.out 0; have hfz23_1 := blk_frozen BK215.out 1; obtain ⟨Ao24, co24, eo24⟩ := Kd.R_slice HO220.out; subst eo24) | ((with_reducible refine gate_callee (f := 55) rfl ?_); refine goesL_ (some 57) rfl rfl Tryd.func55 (by kernel_rfl) rfl #[.slice Ao24 t218.length co24, .int .i64 (wrap64 (x216001_5 + 1))] rfl qM_ ?_; (with_reducible refine (caravanref1_Mark.calls kj5 (fun k_ => some k_ = (.slice Ao24 t218.length co24 : Value).ownBlock) (.slice Ao24 t218.length co24) t218 (wrap64 (x216001_5 + 1)) t221 w _ ?side1 ?side2 A19.out).mono ?_); (case side1 => repeat (first | (with_reducible first | exact HB.out | apply below_alloc | apply pw_below_drewN | apply below_drew1 | refine below_set ?_ GE215.out) | exact HB.out)); (case side2 => exact Kd.R_tight rfl HO220.out); rintro e w25 ⟨v222, rfl, ho0, hb, hkp⟩; refine ⟨_, rfl, ?_⟩; have n0_ := Aside0.mk (blk_kept (by (with_reducible repeat (first | refine blk_drewN ?_ _ | refine blk_drew ?_ | refine blk_alloc ?_ _)); exact BK215.out) hkp (fun hs_ => (fun e_ => (Kd.R_ne HO220.out BK215.out (by decide)) e_) hs_)); have n1_ := Aside0.mk (Kd.R_mono (ok' := fun k_ => True) ho0 (fun k_ hk_ => trivial)); have n2_ := Aside0.mk (hb); clear BK215; clear HB; clear HO220; have BK215 := n0_; have HO223 := n1_; have HB := n2_; clear n0_ n1_ n2_; (try clear hb); (try clear hkp); (try clear ho0)))
        go_roundg kj5
        case measure => have := HK1.out; have := HJ5.out; omega
        case rel => exact ⟨(t221), (wrap64 (x6_1 + 1)), (by first | rfl | (simp; done) | (simp [*]; done)), H', ⟨by have := HK1.out; have := HJ5.out; omega⟩, ⟨by (with_reducible repeat (first | apply Kd.R_alloc | apply Kd.R_drewN | apply Kd.R_drew)); exact HO223.out⟩, ⟨(qed14_ HB.out GE215.out)⟩⟩
       ·rw [if_neg c18] at H
        have c18b0 : decide (x216001_5 < 16384) = false := decide_eq_false c18
        clear c18
        have H' := Aside0.mk H
        clear H
        have hcz26_0 : wc.cell? ⟨gb215, 0, none⟩ = some (.int .i64 x216000_5) := (blk_cell BK215.out 0).trans rfl
        have hcz26_1 : wc.cell? ⟨gb215, 1, none⟩ = some (.int .i64 x216001_5) := (blk_cell BK215.out 1).trans rfl
        have hfz26_0 := blk_frozen BK215.out 0
        have hfz26_1 := blk_frozen BK215.out 1
        obtain ⟨Ao27, co27, eo27⟩ := Kd.R_slice HO_5.out
        subst eo27
        go_wp2_with (first | ((with_reducible refine gate_callee (f := 55) rfl ?_); refine goesL_ (some 42) rfl rfl Tryd.func55 (by kernel_rfl) rfl #[.slice Ao27 x5_1.length co27, .int .i64 x216000_5] rfl qM_ ?_; (with_reducible refine (caravanref1_Mark.calls kj5 (fun k_ => some k_ = (.slice Ao27 x5_1.length co27 : Value).ownBlock) (.slice Ao27 x5_1.length co27) x5_1 x216000_5 t218 w _ ?side1 ?side2 A17.out).mono ?_); (case side1 => repeat (first | (with_reducible first | exact HB.out | apply below_alloc | apply pw_below_drewN | apply below_drew1 | refine below_set ?_ GE215.out) | exact HB.out)); (case side2 => exact Kd.R_tight rfl HO_5.out); rintro e w28 ⟨v219, rfl, ho0, hb, hkp⟩; refine ⟨_, rfl, ?_⟩; have n0_ := Aside0.mk (blk_kept (by (with_reducible repeat (first | refine blk_drewN ?_ _ | refine blk_drew ?_ | refine blk_alloc ?_ _)); exact BK215.out) hkp (fun hs_ => (fun e_ => (Kd.R_ne HO_5.out BK215.out (by decide)) e_) hs_)); have n1_ := Aside0.mk (Kd.R_mono (ok' := fun k_ => True) ho0 (fun k_ hk_ => trivial)); have n2_ := Aside0.mk (hb); clear BK215; clear HB; clear HO_5; have BK215 := n0_; have HO220 := n1_; have HB := n2_; clear n0_ n1_ n2_; (try clear hb); (try clear hkp); (try clear ho0); have hcz29_0 : w28.cell? ⟨gb215, 0, none⟩ = some (.int .i64 x216000_5) := (blk_cell BK215.out 0).trans rfl; have hcz29_1 : w28.cell? ⟨gb215, 1, none⟩ = some (.int .i64 x216001_5) := (blk_cell BK215.out 1).trans rfl; have hfz29_0 := blk_frozen BK215.out 0; have hfz29_1 := blk_frozen BK215.out 1))
        go_roundg kj5
        case measure => have := HK1.out; have := HJ5.out; omega
        case rel => exact ⟨(t218), (wrap64 (x6_1 + 1)), (by first | rfl | (simp; done) | (simp [*]; done)), H', ⟨by have := HK1.out; have := HJ5.out; omega⟩, ⟨by (with_reducible repeat (first | apply Kd.R_alloc | apply Kd.R_drewN | apply Kd.R_drew)); exact HO220.out⟩, ⟨(qed14_ HB.out GE215.out)⟩⟩
      ·rw [if_neg c16] at H
       have c16b0 : decide (x216000_5 ≤ x216001_5) = false := decide_eq_false c16
       clear c16
       have H' := Aside0.mk H
       clear H
       have hcz30_0 : wc.cell? ⟨gb215, 0, none⟩ = some (.int .i64 x216000_5) := (blk_cell BK215.out 0).trans rfl
       have hcz30_1 : wc.cell? ⟨gb215, 1, none⟩ = some (.int .i64 x216001_5) := (blk_cell BK215.out 1).trans rfl
       have hfz30_0 := blk_frozen BK215.out 0
       have hfz30_1 := blk_frozen BK215.out 1
       go_wp2
       go_roundg kj5
       case measure => have := HK1.out; have := HJ5.out; omega
       case rel => exact ⟨(x5_1), (wrap64 (x6_1 + 1)), (by first | rfl | (simp; done) | (simp [*]; done)), H', ⟨by have := HK1.out; have := HJ5.out; omega⟩, ⟨by (with_reducible repeat (first | apply Kd.R_alloc | apply Kd.R_drewN | apply Kd.R_drew)); exact HO_5.out⟩, ⟨(qed14_ HB.out GE215.out)⟩⟩
   ·rw [if_neg c5] at H
    have c5b0 : decide (x6_1 < (wrap64 ((l0.length : Int) + (l1.length : Int)))) = false := decide_eq_false c5
    clear c5
    obtain rfl := Option.some.inj H
    go_wp2
    go_ret
    exact ⟨_, by first | rfl | (simp [errW_none, errW_some] <;> rfl) | (simp [*, errW_none, errW_some] <;> rfl), by (with_reducible repeat (first | apply Kd.R_alloc | apply Kd.R_drewN | apply Kd.R_drew)); exact HO_5.out, (qdb35_ HB.out)⟩

end Go.Proofs.YtnlakdpfkgjdaaaDoor.G

/- What functions of the translation come to, and their calls' proofs; by a program of mine over the kit's print, with contracts given by hand beside. Conditions: where a plain function tells none, nothing is said. -/
namespace Go.Proofs.YtnlakdpfkgjdaaaDoor.G
open Go.RowKit Go.Proofs.YtnlakdpfkgjdaaaDoorW.PrintWords Go.Proofs.YtnlakdpfkgjdaaaDoorW.PrintLast Go.Proofs.YtnlakdpfkgjdaaaDoorW.PrintMore
attribute [local go_sem] max2_int min2_int max_two min_two max_three min_three max_four min_four   -- for this text's walks alone
set_option linter.unusedVariables false
set_option linter.unusedSimpArgs false

/-! ### caravanref1_Mix: function 25 -/
mutual
def caravanref1_Mix.l0 : Nat → Int → List (S31) → List (S31) → List Int → List (S31) → Int → Option ((List (S31)))
 | 0, _, _, _, _, _, _ => none
 | k + 1, x0, x1, x2, x7, x8, x9 => if (wrap64 (x9 + 1)) < (x7.length : Int) then (if 0 ≤ x9 then (if x9 < (x7.length : Int) then ((caravanref1_Has.f k x1 (rd x7 x9)).bind fun t228 => ((caravanref1_Has.f k x2 (rd x7 x9)).bind fun t230 => (if t228 = true then (caravanref1_Mix.j1 k x0 x1 x2 x7 x8 x9 t228 t230 true) else (caravanref1_Mix.j1 k x0 x1 x2 x7 x8 x9 t228 t230 t230)))) else (none)) else (none)) else (some x8)
def caravanref1_Mix.j1 : Nat → Int → List (S31) → List (S31) → List Int → List (S31) → Int → Bool → Bool → Bool → Option ((List (S31)))
 | 0, _, _, _, _, _, _, _, _, _ => none
 | k + 1, x0, x1, x2, x7, x8, x9, x10, x11, x12 => if x0 = 1 then (if x10 = true then (caravanref1_Mix.j2 k x0 x1 x2 x7 x8 x9 (!x11)) else (caravanref1_Mix.j2 k x0 x1 x2 x7 x8 x9 false)) else (if x0 = 2 then (if x10 = true then (caravanref1_Mix.j2 k x0 x1 x2 x7 x8 x9 x11) else (caravanref1_Mix.j2 k x0 x1 x2 x7 x8 x9 false)) else (caravanref1_Mix.j2 k x0 x1 x2 x7 x8 x9 x12))
def caravanref1_Mix.j2 : Nat → Int → List (S31) → List (S31) → List Int → List (S31) → Int → Bool → Option ((List (S31)))
 | 0, _, _, _, _, _, _, _ => none
 | k + 1, x0, x1, x2, x7, x8, x9, x12 => if x12 = true then (if (x8.length : Int) > 0 then (if 0 ≤ (wrap64 ((x8.length : Int) - 1)) then (if (wrap64 ((x8.length : Int) - 1)) < (x8.length : Int) then (if 0 ≤ x9 then (if x9 < (x7.length : Int) then (if ((rd_T31 x8 (wrap64 ((x8.length : Int) - 1))).f1) = (wrap64 ((rd x7 x9) - 1)) then (if 0 ≤ (wrap64 (x9 + 1)) then (if (wrap64 (x9 + 1)) < (x7.length : Int) then (caravanref1_Mix.l0 k x0 x1 x2 x7 (x8.set ((wrap64 ((x8.length : Int) - 1)) : Int).toNat (⟨(rd_T31 x8 (wrap64 ((x8.length : Int) - 1))).f0, wrap64 ((rd x7 (wrap64 (x9 + 1))) - 1)⟩ : S31)) (wrap64 (x9 + 1))) else (none)) else (none)) else (if 0 ≤ (wrap64 (x9 + 1)) then (if (wrap64 (x9 + 1)) < (x7.length : Int) then (if x8.length < 8796093022208 then (caravanref1_Mix.l0 k x0 x1 x2 x7 (x8 ++ [(⟨rd x7 x9, wrap64 ((rd x7 (wrap64 (x9 + 1))) - 1)⟩ : S31)]) (wrap64 (x9 + 1))) else (none)) else (none)) else (none))) else (none)) else (none)) else (none)) else (none)) else (if 0 ≤ x9 then (if x9 < (x7.length : Int) then (if 0 ≤ (wrap64 (x9 + 1)) then (if (wrap64 (x9 + 1)) < (x7.length : Int) then (if x8.length < 8796093022208 then (caravanref1_Mix.l0 k x0 x1 x2 x7 (x8 ++ [(⟨rd x7 x9, wrap64 ((rd x7 (wrap64 (x9 + 1))) - 1)⟩ : S31)]) (wrap64 (x9 + 1))) else (none)) else (none)) else (none)) else (none)) else (none))) else (caravanref1_Mix.l0 k x0 x1 x2 x7 x8 (wrap64 (x9 + 1)))
end
def caravanref1_Mix.f (k : Nat) (a0 : Int) (l1 : List (S31)) (l2 : List (S31)) : Option ((List (S31))) := (caravanref1_marks.f k l1 l2).bind fun t224 => (caravanref1_Mix.l0 k a0 l1 l2 t224 ([] : List (S31)) 0)
theorem caravanref1_Mix.mono_l : ∀ k, (∀ y0 y1 y2 y3 y4 y5, LeO (caravanref1_Mix.l0 k y0 y1 y2 y3 y4 y5) (caravanref1_Mix.l0 (k + 1) y0 y1 y2 y3 y4 y5)) ∧ (∀ y0 y1 y2 y3 y4 y5 y6 y7 y8, LeO (caravanref1_Mix.j1 k y0 y1 y2 y3 y4 y5 y6 y7 y8) (caravanref1_Mix.j1 (k + 1) y0 y1 y2 y3 y4 y5 y6 y7 y8)) ∧ (∀ y0 y1 y2 y3 y4 y5 y6, LeO (caravanref1_Mix.j2 k y0 y1 y2 y3 y4 y5 y6) (caravanref1_Mix.j2 (k + 1) y0 y1 y2 y3 y4 y5 y6))
 | 0 => ⟨fun _ _ _ _ _ _ r h => by simp [caravanref1_Mix.l0] at h, fun _ _ _ _ _ _ _ _ _ r h => by simp [caravanref1_Mix.j1] at h, fun _ _ _ _ _ _ _ r h => by simp [caravanref1_Mix.j2] at h⟩
 | k + 1 => by
  obtain ⟨ih0, ih1, ih2⟩ := caravanref1_Mix.mono_l k
  refine ⟨?_, ?_, ?_⟩
  ·intro y0 y1 y2 y3 y4 y5
   unfold caravanref1_Mix.l0
   repeat' first
   | (with_reducible exact ih0 _ _ _ _ _ _)
   | (with_reducible exact ih1 _ _ _ _ _ _ _ _ _)
   | (with_reducible exact ih2 _ _ _ _ _ _ _)
   | (with_reducible exact caravanref1_Has.mono _ _ _)
   | (with_reducible exact caravanref1_marks.mono _ _ _)
   | (with_reducible exact LeO.refl _)
   | (with_reducible exact LeO.none _)
   | (with_reducible refine LeO.ite ?_ ?_)
   | (with_reducible refine LeO.bind ?_ (fun _ => ?_))
   | exact ih0 _ _ _ _ _ _
   | exact ih1 _ _ _ _ _ _ _ _ _
   | exact ih2 _ _ _ _ _ _ _
   | exact caravanref1_Has.mono _ _ _
   | exact caravanref1_marks.mono _ _ _
   | exact LeO.none _
   | refine LeO.ite ?_ ?_
   | refine LeO.bind ?_ (fun _ => ?_)
  ·intro y0 y1 y2 y3 y4 y5 y6 y7 y8
   unfold caravanref1_Mix.j1
   repeat' first
   | (with_reducible exact ih0 _ _ _ _ _ _)
   | (with_reducible exact ih1 _ _ _ _ _ _ _ _ _)
   | (with_reducible exact ih2 _ _ _ _ _ _ _)
   | (with_reducible exact caravanref1_Has.mono _ _ _)
   | (with_reducible exact caravanref1_marks.mono _ _ _)
   | (with_reducible exact LeO.refl _)
   | (with_reducible exact LeO.none _)
   | (with_reducible refine LeO.ite ?_ ?_)
   | (with_reducible refine LeO.bind ?_ (fun _ => ?_))
   | exact ih0 _ _ _ _ _ _
   | exact ih1 _ _ _ _ _ _ _ _ _
   | exact ih2 _ _ _ _ _ _ _
   | exact caravanref1_Has.mono _ _ _
   | exact caravanref1_marks.mono _ _ _
   | exact LeO.none _
   | refine LeO.ite ?_ ?_
   | refine LeO.bind ?_ (fun _ => ?_)
  ·intro y0 y1 y2 y3 y4 y5 y6
   unfold caravanref1_Mix.j2
   repeat' first
   | (with_reducible exact ih0 _ _ _ _ _ _)
   | (with_reducible exact ih1 _ _ _ _ _ _ _ _ _)
   | (with_reducible exact ih2 _ _ _ _ _ _ _)
   | (with_reducible exact caravanref1_Has.mono _ _ _)
   | (with_reducible exact caravanref1_marks.mono _ _ _)
   | (with_reducible exact LeO.refl _)
   | (with_reducible exact LeO.none _)
   | (with_reducible refine LeO.ite ?_ ?_)
   | (with_reducible refine LeO.bind ?_ (fun _ => ?_))
   | exact ih0 _ _ _ _ _ _
   | exact ih1 _ _ _ _ _ _ _ _ _
   | exact ih2 _ _ _ _ _ _ _
   | exact caravanref1_Has.mono _ _ _
   | exact caravanref1_marks.mono _ _ _
   | exact LeO.none _
   | refine LeO.ite ?_ ?_
   | refine LeO.bind ?_ (fun _ => ?_)
theorem caravanref1_Mix.mono : ∀ a0 a1 a2 k, LeO (caravanref1_Mix.f k a0 a1 a2) (caravanref1_Mix.f (k + 1) a0 a1 a2) := by
 intro a0 a1 a2 k
 obtain ⟨ih0, ih1, ih2⟩ := caravanref1_Mix.mono_l k
 unfold caravanref1_Mix.f
 repeat' first
  | (with_reducible exact ih0 _ _ _ _ _ _)
  | (with_reducible exact ih1 _ _ _ _ _ _ _ _ _)
  | (with_reducible exact ih2 _ _ _ _ _ _ _)
  | (with_reducible exact caravanref1_Has.mono _ _ _)
  | (with_reducible exact caravanref1_marks.mono _ _ _)
  | (with_reducible exact LeO.refl _)
  | (with_reducible exact LeO.none _)
  | (with_reducible refine LeO.ite ?_ ?_)
  | (with_reducible refine LeO.bind ?_ (fun _ => ?_))
  | exact ih0 _ _ _ _ _ _
  | exact ih1 _ _ _ _ _ _ _ _ _
  | exact ih2 _ _ _ _ _ _ _
  | exact caravanref1_Has.mono _ _ _
  | exact caravanref1_marks.mono _ _ _
  | exact LeO.none _
  | refine LeO.ite ?_ ?_
  | refine LeO.bind ?_ (fun _ => ?_)
def caravanref1_Mix.T6 : Bool × List (List Nat × List Nat) := (true, [([], []), ([], []), ([], []), ([1, 2], [1, 2]), ([3], [3]), ([0, 4], [0, 4]), ([], []), ([], []), ([], []), ([7, 8], [7, 8]), ([9], [9]), ([6, 10, 5], [6, 10]), ([5, 11, 0, 1, 2, 3, 4, 5], [5]), ([11, 12, 0, 1, 2, 3, 4, 5, 6, 7, 8, 9, 10, 11, 12], [11])])
def caravanref1_Mix.B6 : List Nat := [0, 0, 0, 6, 14, 31, 0, 0, 0, 384, 896, 2047, 4095, 8191]
theorem caravanref1_Mix.tab6 : rtab .any (opsOf Tryd.f25 6) = caravanref1_Mix.T6 := by kernel_rfl
theorem caravanref1_Mix.bits6 : waitsOk caravanref1_Mix.T6.2 caravanref1_Mix.B6 = true := by kernel_rfl
def caravanref1_Mix.T13 : Bool × List (List Nat × List Nat) := (true, [([], []), ([], []), ([], []), ([1, 2], [1, 2]), ([3], [3]), ([], []), ([], []), ([6], [6]), ([5, 7], [5, 7]), ([8], [8]), ([9], [9]), ([4, 10], [4, 10]), ([11], [11]), ([0, 12], [0, 12]), ([13, 13, 0, 1, 2, 3, 4, 5, 6, 7, 8, 9, 10, 11, 12, 13], [0, 13])])
def caravanref1_Mix.B13 : List Nat := [0, 0, 0, 6, 14, 0, 0, 64, 224, 480, 992, 2046, 4094, 8191, 16383]
theorem caravanref1_Mix.tab13 : rtab .any (opsOf Tryd.f25 13) = caravanref1_Mix.T13 := by kernel_rfl
theorem caravanref1_Mix.bits13 : waitsOk caravanref1_Mix.T13.2 caravanref1_Mix.B13 = true := by kernel_rfl
def caravanref1_Mix.T15 : Bool × List (List Nat × List Nat) := (true, [([], []), ([0], [0]), ([1], [1]), ([2], [2]), ([3], [3]), ([3], [3]), ([5, 3], [3, 5]), ([6, 3], [3, 6]), ([4, 7, 3], [3, 4, 7]), ([8, 3], [3, 8]), ([9, 3], [3, 9]), ([3], [3]), ([3], [3]), ([11, 12, 3], [3, 11, 12]), ([13, 3], [3, 13]), ([14, 3], [3, 14]), ([10, 15, 3], [3, 10, 15]), ([3, 16], [3, 16]), ([17, 3], [17])])
def caravanref1_Mix.B15 : List Nat := [0, 1, 3, 7, 15, 15, 47, 111, 255, 511, 1023, 15, 15, 6159, 14351, 30735, 65535, 131071, 262143]
theorem caravanref1_Mix.tab15 : rtab .any (opsOf Tryd.f25 15) = caravanref1_Mix.T15 := by kernel_rfl
theorem caravanref1_Mix.bits15 : waitsOk caravanref1_Mix.T15.2 caravanref1_Mix.B15 = true := by kernel_rfl
set_option maxHeartbeats 8000000 in
set_option maxRecDepth 100000 in
theorem caravanref1_Mix.calls (k : Nat) (a0 : Int) (A1 : Option Addr) (c1 : Nat) (l1 : List (S31)) (A2 : Option Addr) (c2 : Nat) (l2 : List (S31)) (r : List (S31)) (w : World) (hr1 : Kd.C k31 w A1 l1.length l1) (hc1 : l1.length ≤ c1) (hr2 : Kd.C k31 w A2 l2.length l2) (hc2 : l2.length ≤ c2) (h : caravanref1_Mix.f k a0 l1 l2 = some r) :
 Calls Tryd.prog 25 #[.int .i64 a0, .slice A1 l1.length c1, .slice A2 l2.length c2] w fun e w' => ∃ v0_ : Value, e = .returned (v0_) ∧ Kd.R k31 31 w' w.heap.size (fun _ => True) v0_ r ∧ Below w.heap.size w w' := by
 have hu31 := Tryd.underlying31
 have HR1 := Aside0.mk hr1
 have HC1 := Aside0.mk hc1
 clear hr1 hc1
 have HR2 := Aside0.mk hr2
 have HC2 := Aside0.mk hc2
 clear hr2 hc2
 have HB := Aside0.mk (Below.refl w.heap.size w)
 have H : ((caravanref1_marks.f k l1 l2).bind fun t224 => (caravanref1_Mix.l0 k a0 l1 l2 t224 ([] : List (S31)) 0)) = some r := h
 clear h
 replace H := Option.bind_eq_some_iff.mp H
 obtain ⟨t224, A40, H⟩ := H
 replace H : (caravanref1_Mix.l0 k a0 l1 l2 t224 ([] : List (S31)) 0) = some r := H
 have A4 := Aside0.mk A40
 clear A40
 have H' := Aside0.mk H
 clear H
 go_enter Tryd.func25, Tryd.ntmps25
 go_wp2_with (first | ((with_reducible refine gate_callee (f := 38) rfl ?_); refine goesL_ (some 15) rfl rfl Tryd.func38 (by kernel_rfl) rfl #[.slice A1 l1.length c1, .slice A2 l2.length c2] rfl qM_ ?_; (with_reducible refine (caravanref1_marks.calls k _ _ l1 _ _ l2 t224 _ ?side1 ?side2 ?side3 ?side4 A4.out).mono ?_); (case side1 => exact qC_ (HR1.out)); (case side2 => exact HC1.out); (case side3 => exact qC_ (HR2.out)); (case side4 => exact HC2.out); rintro e w5 ⟨v225, rfl, ho0, hb⟩; refine ⟨_, rfl, ?_⟩; have n0_ := Aside0.mk (Kd.R_lower ho0 (below_size (qdb35_ HB.out))); have n1_ := Aside0.mk (below_step (qdb35_ HB.out) hb); clear HB; have HO226 := n0_; have HB := n1_; clear n0_ n1_; (try clear hb); (try clear hb2); (try clear hk); (try clear hi); (try clear ho0)))
 go_loopg [8, 9] k (fun kq v8 v9 w' => ∃ (x8_1 : List (S31)) (x9_1 : Int), v9 = .int .i64 x9_1 ∧ Aside0 (caravanref1_Mix.l0 kq a0 l1 l2 t224 x8_1 x9_1 = some r) ∧ Aside0 (kq ≤ k) ∧ Aside0 (Kd.R (Kd.int .i64) 3 w' w.heap.size (fun _ => True) v225 t224) ∧ Aside0 (Kd.R k31 31 w' w.heap.size (fun _ => True) v8 x8_1) ∧ Aside0 (Below w.heap.size w w'))
 case atStart => exact ⟨(([] : List (S31))), (0), (by first | rfl | (simp; done) | (simp [*]; done)), H', ⟨Nat.le_refl _⟩, ⟨by (with_reducible repeat (first | apply Kd.R_alloc | apply Kd.R_drewN | apply Kd.R_drew)); exact HO226.out⟩, ⟨by first | exact Kd.R_nil _ _ _ _ _ | exact Kd.N_nil _ _ _ _ _ | exact Kd.V_nil _ _ _ _ _ | exact Kd.Q_nil _ _ _ _ _ | exact Kd.S_nil _ _ _ _ _⟩, ⟨(qdb35_ HB.out)⟩⟩
 case round =>
  clear H'
  try clear c1
  try clear c2
  try clear p2
  try clear c3
  obtain ⟨x8_1, x9_1, rfl, HA, HK1, HO_7, HO_8, HB⟩ := hrel
  cases gk with
  | zero => exact absurd HA.out (by simp [caravanref1_Mix.l0])
  | succ k1 =>
   have H := HA.out
   clear HA
   simp only [caravanref1_Mix.l0] at H
   by_cases c6 : (wrap64 (x9_1 + 1)) < (t224.length : Int)
   ·rw [if_pos c6] at H
    have c6b0 : decide ((wrap64 (x9_1 + 1)) < (t224.length : Int)) = true := decide_eq_true c6
    clear c6
    by_cases c7 : 0 ≤ x9_1
    ·rw [if_pos c7] at H
     have c7b0 : decide (0 ≤ x9_1) = true := decide_eq_true c7
     clear c7
     by_cases c8 : x9_1 < (t224.length : Int)
     ·rw [if_pos c8] at H
      have c8b0 : decide (x9_1 < (t224.length : Int)) = true := decide_eq_true c8
      clear c8
      replace H := Option.bind_eq_some_iff.mp H
      obtain ⟨t228, A90, H⟩ := H
      replace H : ((caravanref1_Has.f k1 l2 (rd t224 x9_1)).bind fun t230 => (if t228 = true then (caravanref1_Mix.j1 k1 a0 l1 l2 t224 x8_1 x9_1 t228 t230 true) else (caravanref1_Mix.j1 k1 a0 l1 l2 t224 x8_1 x9_1 t228 t230 t230))) = some r := H
      have A9 := Aside0.mk A90
      clear A90
      replace H := Option.bind_eq_some_iff.mp H
      obtain ⟨t230, A100, H⟩ := H
      replace H : (if t228 = true then (caravanref1_Mix.j1 k1 a0 l1 l2 t224 x8_1 x9_1 t228 t230 true) else (caravanref1_Mix.j1 k1 a0 l1 l2 t224 x8_1 x9_1 t228 t230 t230)) = some r := H
      have A10 := Aside0.mk A100
      clear A100
      have HC11 := Aside0.mk H
      clear H
      obtain ⟨Ao12, co12, eo12⟩ := Kd.R_slice HO_7.out
      subst eo12
      try go_wp2
      have n0_ := Aside0.mk (Kd.R_drew HO_7.out)
      have n1_ := Aside0.mk (Kd.R_drew HO_8.out)
      have n2_ := Aside0.mk (below_drew1 HB.out)
      clear HO_7
      clear HO_8
      clear HB
      have HO_7 := n0_
      have HO_8 := n1_
      have HB := n2_
      clear n0_ n1_ n2_
      have p227 : 0 ≤ (x9_1 : Int) := of_decide_eq_true (by first | (with_reducible assumption) | assumption)
      have q227 : x9_1 < (t224.length : Int) := of_decide_eq_true (by first | (with_reducible assumption) | assumption)
      obtain ⟨ad227, e227, hx227_0⟩ := Kd.at_int (Kd.R_reads' HO_7.out).2.2 x9_1 p227 q227
      cases e227
      replace p227 := eq_true p227
      replace q227 := eq_true q227
      have p229 : 0 ≤ (x9_1 : Int) := of_decide_eq_true (by first | (with_reducible assumption) | assumption)
      have q229 : x9_1 < (t224.length : Int) := of_decide_eq_true (by first | (with_reducible assumption) | assumption)
      obtain ⟨ad229, e229, hx229_0⟩ := Kd.at_int (Kd.R_reads' HO_7.out).2.2 x9_1 p229 q229
      obtain rfl : ad227 = ad229 := (by injection e229)
      replace p229 := eq_true p229
      replace q229 := eq_true q229
      refine start_ (n := 14) (S := fun w' => w'.cell? (ad227.add (x9_1).toNat) = some (.int .i64 (rd t224 x9_1)) ∧ w'.cell? (ad227.add (x9_1).toNat) = some (.int .i64 (rd t224 x9_1))) (ds := []) (ml_ 14 0) (by kernel_rfl) rfl rfl ⟨hx227_0, hx229_0⟩ (fun hHeld => ?_); refine with_tabW caravanref1_Mix.tab6 caravanref1_Mix.bits6 (fun HT_ HW_ => ?_)
      generalize wr.drew = w13 at HO_7 HO_8 HB hx227_0 hx229_0 hHeld ⊢
      refine pA_ 0 23 (ml_ 14 1) rfl rfl HT_.out ?_
      refine pA_ 1 24 (ml_ 14 3) rfl rfl HT_.out ?_
      refine pA_ 2 25 (ml_ 14 7) rfl rfl HT_.out ?_
      refine pA_ 3 26 (ml_ 14 15) rfl rfl HT_.out ?_
      refine pA_ 6 29 (ml_ 14 79) rfl rfl HT_.out ?_
      refine pA_ 7 30 (ml_ 14 207) rfl rfl HT_.out ?_
      refine pA_ 8 31 (ml_ 14 463) rfl rfl HT_.out ?_
      refine pA_ 9 32 (ml_ 14 975) rfl rfl HT_.out ?_
      refine t2_ 4 27 (ml_ 14 991) rfl rfl HT_.out HW_.out hHeld ?_
      refine t2_ 10 33 (ml_ 14 2015) rfl rfl HT_.out HW_.out hHeld ?_
      refine one_ (i := 5) (N := some 28) (ml_ 14 2047) rfl rfl (one_of HT_.out (by kernel_rfl)) (by decide) (fun K hK => ?_)
      refine goes_ Tryd.func19 (by kernel_rfl) rfl #[.slice A1 l1.length c1, .int .i64 (rd t224 x9_1)] (by rfl) rfl rfl qM_ ?_
      with_reducible refine (caravanref1_Has.calls k1 _ _ l1 (rd t224 x9_1) t228 _ ?side1 ?side2 A9.out).mono ?_
      (case side1 => exact qC_ ((Kd.C_below HR1.out HB.out)))
      (case side2 => exact HC1.out)
      rintro e w' ⟨rfl, ⟨nd, rfl⟩⟩
      refine ⟨_, rfl, ?_⟩
      refine hK.out _ _ ⟨hHeld.1, hHeld.2⟩ (fun hHeld => ?_)
      clear hK K
      refine nA_ 28 ?_
      refine one_ (i := 11) (N := some 34) (ml_ 14 4095) rfl rfl (one_of HT_.out (by kernel_rfl)) (by decide) (fun K hK => ?_)
      refine goes_ Tryd.func19 (by kernel_rfl) rfl #[.slice A2 l2.length c2, .int .i64 (rd t224 x9_1)] (by rfl) rfl rfl qM_ ?_
      with_reducible refine (caravanref1_Has.calls k1 _ _ l2 (rd t224 x9_1) t230 _ ?side1 ?side2 A10.out).mono ?_
      (case side1 => repeat (first | exact (Kd.C_below HR2.out (qdb35_ HB.out)) | (with_reducible refine Kd.C_alloc ?_ _) | (with_reducible refine Kd.C_drewN ?_ _) | (with_reducible refine Kd.C_drew ?_)))
      (case side2 => exact HC2.out)
      rintro e w' ⟨rfl, ⟨nd, rfl⟩⟩
      refine ⟨_, rfl, ?_⟩
      refine hK.out _ _ ⟨hHeld.1, hHeld.2⟩ (fun hHeld => ?_)
      clear hK K
      refine nA_ 34 ?_
      refine pA_ 12 10 (ml_ 14 8191) rfl rfl HT_.out ?_
      refine pA_ 13 11 (ml_ 14 16383) rfl rfl HT_.out ?_
      refine done_ (done_of HT_.out (by kernel_rfl)) ?_
      go_upto_region 7 with (fail)
      go_cut [12] (fun v12 wc => ∃ (kq : Nat) (x12_10 : Bool), v12 = .bool x12_10 ∧ Aside0 (caravanref1_Mix.j1 kq a0 l1 l2 t224 x8_1 x9_1 t228 t230 x12_10 = some r) ∧ Aside0 (kq ≤ k1) ∧ Aside0 (Kd.R (Kd.int .i64) 3 wc w.heap.size (fun _ => True) (.slice (some ad227) t224.length co12) t224) ∧ Aside0 (Kd.R k31 31 wc w.heap.size (fun _ => True) u8 x8_1) ∧ Aside0 (Below w.heap.size w wc))
      case first =>
       have H := HC11.out
       clear HC11
       by_cases c14 : t228 = true
       ·subst c14
        have H1 : (caravanref1_Mix.j1 k1 a0 l1 l2 t224 x8_1 x9_1 true t230 true) = some r := by rw [if_pos rfl] at H; exact H
        clear H
        have H := H1
        clear H1
        have H' := Aside0.mk H
        clear H
        go_wp2
        go_meet
        case rel => exact ⟨_, (true), (by first | rfl | (simp; done) | (simp [*]; done)), H', ⟨by have := HK1.out; first | omega | exact Nat.le_refl _⟩, ⟨by (with_reducible repeat (first | apply Kd.R_alloc | apply Kd.R_drewN | apply Kd.R_drew)); exact HO_7.out⟩, ⟨by (with_reducible repeat (first | apply Kd.R_alloc | apply Kd.R_drewN | apply Kd.R_drew)); exact HO_8.out⟩, ⟨(qdb35_ HB.out)⟩⟩
       ·replace c14 := Bool.eq_false_iff.mpr c14
        subst c14
        have H1 : (caravanref1_Mix.j1 k1 a0 l1 l2 t224 x8_1 x9_1 false t230 t230) = some r := by rw [if_neg (show ¬ (false = true) by decide)] at H; exact H
        clear H
        have H := H1
        clear H1
        have H' := Aside0.mk H
        clear H
        go_wp2
        go_meet
        case rel => exact ⟨_, (t230), (by first | rfl | (simp; done) | (simp [*]; done)), H', ⟨by have := HK1.out; first | omega | exact Nat.le_refl _⟩, ⟨by (with_reducible repeat (first | apply Kd.R_alloc | apply Kd.R_drewN | apply Kd.R_drew)); exact HO_7.out⟩, ⟨by (with_reducible repeat (first | apply Kd.R_alloc | apply Kd.R_drewN | apply Kd.R_drew)); exact HO_8.out⟩, ⟨(qdb35_ HB.out)⟩⟩
      case rest =>
       clear HC11
       try clear c1
       try clear c2
       try clear p2
       try clear q2
       try clear hx2
       try clear c3
       try clear c6
       try clear c6b0
       try clear p6
       try clear c7
       try clear c7b0
       try clear c8
       try clear c8b0
       try clear c14
       try clear hx227_0
       try clear hx229_0
       try clear p2
       try clear p227
       try clear p229
       try clear q227
       try clear q229
       obtain ⟨kq, x12_10, rfl, HA, HJ10, HO_7, HO_8, HB⟩ := hcut
       cases kq with
       | zero => exact absurd HA.out (by simp [caravanref1_Mix.j1])
       | succ kj10 =>
        have H := HA.out
        clear HA
        simp only [caravanref1_Mix.j1] at H
        have HC15 := Aside0.mk H
        clear H
        go_upto_block 2 with (fail)
        go_cut [12] (fun v12 wc => ∃ (kq : Nat) (x12_14 : Bool), v12 = .bool x12_14 ∧ Aside0 (caravanref1_Mix.j2 kq a0 l1 l2 t224 x8_1 x9_1 x12_14 = some r) ∧ Aside0 (kq ≤ kj10) ∧ Aside0 (Kd.R (Kd.int .i64) 3 wc w.heap.size (fun _ => True) (.slice (some ad227) t224.length co12) t224) ∧ Aside0 (Kd.R k31 31 wc w.heap.size (fun _ => True) u8 x8_1) ∧ Aside0 (Below w.heap.size w wc))
        case first =>
         have H := HC15.out
         clear HC15
         by_cases c16 : a0 = 1
         ·rw [if_pos c16] at H
          have c16b0 : (a0 == 1) = true := beq_iff_eq.mpr c16
          have c16b1 : (a0 != 1) = false := bne_eq_false_iff_eq.mpr c16
          clear c16
          (first | rw [c16b0] | (simp only [i64_w, i32_w]; rw [c16b0]) | skip)
          by_cases c17 : t228 = true
          ·subst c17
           have H1 : (caravanref1_Mix.j2 kj10 a0 l1 l2 t224 x8_1 x9_1 (!t230)) = some r := by rw [if_pos rfl] at H; exact H
           clear H
           have H := H1
           clear H1
           have H' := Aside0.mk H
           clear H
           go_wp2
           go_meet
           case rel => exact ⟨_, (!t230), (by first | rfl | (simp; done) | (simp [*]; done)), H', ⟨by have := HK1.out; have := HJ10.out; first | omega | exact Nat.le_refl _⟩, ⟨by (with_reducible repeat (first | apply Kd.R_alloc | apply Kd.R_drewN | apply Kd.R_drew)); exact HO_7.out⟩, ⟨by (with_reducible repeat (first | apply Kd.R_alloc | apply Kd.R_drewN | apply Kd.R_drew)); exact HO_8.out⟩, ⟨(qdb35_ HB.out)⟩⟩
          ·replace c17 := Bool.eq_false_iff.mpr c17
           subst c17
           have H1 : (caravanref1_Mix.j2 kj10 a0 l1 l2 t224 x8_1 x9_1 false) = some r := by rw [if_neg (show ¬ (false = true) by decide)] at H; exact H
           clear H
           have H := H1
           clear H1
           have H' := Aside0.mk H
           clear H
           go_wp2
           go_meet
           case rel => exact ⟨_, (false), (by first | rfl | (simp; done) | (simp [*]; done)), H', ⟨by have := HK1.out; have := HJ10.out; first | omega | exact Nat.le_refl _⟩, ⟨by (with_reducible repeat (first | apply Kd.R_alloc | apply Kd.R_drewN | apply Kd.R_drew)); exact HO_7.out⟩, ⟨by (with_reducible repeat (first | apply Kd.R_alloc | apply Kd.R_drewN | apply Kd.R_drew)); exact HO_8.out⟩, ⟨(qdb35_ HB.out)⟩⟩
         ·rw [if_neg c16] at H
          have c16b0 : (a0 == 1) = false := beq_eq_false_iff_ne.mpr c16
          have c16b1 : (a0 != 1) = true := bne_iff_ne.mpr c16
          (first | rw [c16b0] | (simp only [i64_w, i32_w]; rw [c16b0]) | skip)
          by_cases c18 : a0 = 2
          ·rw [if_pos c18] at H
           have c18b0 : (a0 == 2) = true := beq_iff_eq.mpr c18
           have c18b1 : (a0 != 2) = false := bne_eq_false_iff_eq.mpr c18
           clear c18
           by_cases c19 : t228 = true
           ·subst c19
            have H1 : (caravanref1_Mix.j2 kj10 a0 l1 l2 t224 x8_1 x9_1 t230) = some r := by rw [if_pos rfl] at H; exact H
            clear H
            have H := H1
            clear H1
            have H' := Aside0.mk H
            clear H
            go_wp2
            go_meet
            case rel => exact ⟨_, (t230), (by first | rfl | (simp; done) | (simp [*]; done)), H', ⟨by have := HK1.out; have := HJ10.out; first | omega | exact Nat.le_refl _⟩, ⟨by (with_reducible repeat (first | apply Kd.R_alloc | apply Kd.R_drewN | apply Kd.R_drew)); exact HO_7.out⟩, ⟨by (with_reducible repeat (first | apply Kd.R_alloc | apply Kd.R_drewN | apply Kd.R_drew)); exact HO_8.out⟩, ⟨(qdb35_ HB.out)⟩⟩
           ·replace c19 := Bool.eq_false_iff.mpr c19
            subst c19
            have H1 : (caravanref1_Mix.j2 kj10 a0 l1 l2 t224 x8_1 x9_1 false) = some r := by rw [if_neg (show ¬ (false = true) by decide)] at H; exact H
            clear H
            have H := H1
            clear H1
            have H' := Aside0.mk H
            clear H
            go_wp2
            go_meet
            case rel => exact ⟨_, (false), (by first | rfl | (simp; done) | (simp [*]; done)), H', ⟨by have := HK1.out; have := HJ10.out; first | omega | exact Nat.le_refl _⟩, ⟨by (with_reducible repeat (first | apply Kd.R_alloc | apply Kd.R_drewN | apply Kd.R_drew)); exact HO_7.out⟩, ⟨by (with_reducible repeat (first | apply Kd.R_alloc | apply Kd.R_drewN | apply Kd.R_drew)); exact HO_8.out⟩, ⟨(qdb35_ HB.out)⟩⟩
          ·rw [if_neg c18] at H
           have c18b0 : (a0 == 2) = false := beq_eq_false_iff_ne.mpr c18
           have c18b1 : (a0 != 2) = true := bne_iff_ne.mpr c18
           have H' := Aside0.mk H
           clear H
           go_wp2
           go_meet
           case rel => exact ⟨_, (x12_10), (by first | rfl | (simp; done) | (simp [*]; done)), H', ⟨by have := HK1.out; have := HJ10.out; first | omega | exact Nat.le_refl _⟩, ⟨by (with_reducible repeat (first | apply Kd.R_alloc | apply Kd.R_drewN | apply Kd.R_drew)); exact HO_7.out⟩, ⟨by (with_reducible repeat (first | apply Kd.R_alloc | apply Kd.R_drewN | apply Kd.R_drew)); exact HO_8.out⟩, ⟨(qdb35_ HB.out)⟩⟩
        case rest =>
         clear HC15
         try clear c1
         try clear c2
         try clear p2
         try clear q2
         try clear hx2
         try clear c3
         try clear c6
         try clear c6b0
         try clear p6
         try clear c7
         try clear c7b0
         try clear c8
         try clear c8b0
         try clear c14
         try clear c16
         try clear c16b0
         try clear c16b1
         try clear c17
         try clear c18
         try clear c18b0
         try clear c18b1
         try clear c19
         try clear hx227_0
         try clear hx229_0
         try clear p2
         try clear p227
         try clear p229
         try clear p6
         try clear q2
         try clear q227
         try clear q229
         obtain ⟨kq, x12_14, rfl, HA, HJ14, HO_7, HO_8, HB⟩ := hcut
         cases kq with
         | zero => exact absurd HA.out (by simp [caravanref1_Mix.j2])
         | succ kj14 =>
          have H := HA.out
          clear HA
          simp only [caravanref1_Mix.j2] at H
          by_cases c20 : x12_14 = true
          ·subst c20
           have H1 : (if (x8_1.length : Int) > 0 then (if 0 ≤ (wrap64 ((x8_1.length : Int) - 1)) then (if (wrap64 ((x8_1.length : Int) - 1)) < (x8_1.length : Int) then (if 0 ≤ x9_1 then (if x9_1 < (t224.length : Int) then (if ((rd_T31 x8_1 (wrap64 ((x8_1.length : Int) - 1))).f1) = (wrap64 ((rd t224 x9_1) - 1)) then (if 0 ≤ (wrap64 (x9_1 + 1)) then (if (wrap64 (x9_1 + 1)) < (t224.length : Int) then (caravanref1_Mix.l0 kj14 a0 l1 l2 t224 (x8_1.set ((wrap64 ((x8_1.length : Int) - 1)) : Int).toNat (⟨(rd_T31 x8_1 (wrap64 ((x8_1.length : Int) - 1))).f0, wrap64 ((rd t224 (wrap64 (x9_1 + 1))) - 1)⟩ : S31)) (wrap64 (x9_1 + 1))) else (none)) else (none)) else (if 0 ≤ (wrap64 (x9_1 + 1)) then (if (wrap64 (x9_1 + 1)) < (t224.length : Int) then (if x8_1.length < 8796093022208 then (caravanref1_Mix.l0 kj14 a0 l1 l2 t224 (x8_1 ++ [(⟨rd t224 x9_1, wrap64 ((rd t224 (wrap64 (x9_1 + 1))) - 1)⟩ : S31)]) (wrap64 (x9_1 + 1))) else (none)) else (none)) else (none))) else (none)) else (none)) else (none)) else (none)) else (if 0 ≤ x9_1 then (if x9_1 < (t224.length : Int) then (if 0 ≤ (wrap64 (x9_1 + 1)) then (if (wrap64 (x9_1 + 1)) < (t224.length : Int) then (if x8_1.length < 8796093022208 then (caravanref1_Mix.l0 kj14 a0 l1 l2 t224 (x8_1 ++ [(⟨rd t224 x9_1, wrap64 ((rd t224 (wrap64 (x9_1 + 1))) - 1)⟩ : S31)]) (wrap64 (x9_1 + 1))) else (none)) else (none)) else (none)) else (none)) else (none))) = some r := by rw [if_pos rfl] at H; exact H
           clear H
           have H := H1
           clear H1
           by_cases c21 : (x8_1.length : Int) > 0
           ·rw [if_pos c21] at H
            have c21b0 : decide (0 < (x8_1.length : Int)) = true := decide_eq_true c21
            have c21b1 : decide (0 < x8_1.length) = true := decide_eq_true (by omega)
            clear c21
            obtain ⟨ji22, hji22⟩ : ∃ j_ : Int, (wrap64 ((x8_1.length : Int) - 1)) = j_ := ⟨_, rfl⟩
            replace H : (if 0 ≤ (ji22) then (if (ji22) < (x8_1.length : Int) then (if 0 ≤ x9_1 then (if x9_1 < (t224.length : Int) then (if ((rd_T31 x8_1 (ji22)).f1) = (wrap64 ((rd t224 x9_1) - 1)) then (if 0 ≤ (wrap64 (x9_1 + 1)) then (if (wrap64 (x9_1 + 1)) < (t224.length : Int) then (caravanref1_Mix.l0 kj14 a0 l1 l2 t224 (x8_1.set ((ji22) : Int).toNat (⟨(rd_T31 x8_1 (ji22)).f0, wrap64 ((rd t224 (wrap64 (x9_1 + 1))) - 1)⟩ : S31)) (wrap64 (x9_1 + 1))) else (none)) else (none)) else (if 0 ≤ (wrap64 (x9_1 + 1)) then (if (wrap64 (x9_1 + 1)) < (t224.length : Int) then (if x8_1.length < 8796093022208 then (caravanref1_Mix.l0 kj14 a0 l1 l2 t224 (x8_1 ++ [(⟨rd t224 x9_1, wrap64 ((rd t224 (wrap64 (x9_1 + 1))) - 1)⟩ : S31)]) (wrap64 (x9_1 + 1))) else (none)) else (none)) else (none))) else (none)) else (none)) else (none)) else (none)) = some r := by first | (rw [hji22] at H; exact H) | (simp only [hji22] at H ⊢; exact H)
            have hji22w : (IntKind.i64.wrap ((x8_1.length : Int) - 1)) = ji22 := (i64_w _).trans hji22
            by_cases c23 : 0 ≤ (ji22)
            ·rw [if_pos c23] at H
             have c23b0 : decide (0 ≤ (ji22)) = true := decide_eq_true c23
             clear c23
             by_cases c24 : (ji22) < (x8_1.length : Int)
             ·rw [if_pos c24] at H
              have c24b0 : decide ((ji22) < (x8_1.length : Int)) = true := decide_eq_true c24
              clear c24
              by_cases c25 : 0 ≤ x9_1
              ·rw [if_pos c25] at H
               have c25b0 : decide (0 ≤ x9_1) = true := decide_eq_true c25
               clear c25
               by_cases c26 : x9_1 < (t224.length : Int)
               ·rw [if_pos c26] at H
                have c26b0 : decide (x9_1 < (t224.length : Int)) = true := decide_eq_true c26
                clear c26
                by_cases c27 : ((rd_T31 x8_1 (ji22)).f1) = (wrap64 ((rd t224 x9_1) - 1))
                ·rw [if_pos c27] at H
                 have c27b0 : (((rd_T31 x8_1 (ji22)).f1) == (wrap64 ((rd t224 x9_1) - 1))) = true := beq_iff_eq.mpr c27
                 have c27b1 : (((rd_T31 x8_1 (ji22)).f1) != (wrap64 ((rd t224 x9_1) - 1))) = false := bne_eq_false_iff_eq.mpr c27
                 clear c27
                 obtain ⟨ji28, hji28⟩ : ∃ j_ : Int, (wrap64 (x9_1 + 1)) = j_ := ⟨_, rfl⟩
                 replace H : (if 0 ≤ (ji28) then (if (ji28) < (t224.length : Int) then (caravanref1_Mix.l0 kj14 a0 l1 l2 t224 (x8_1.set ((ji22) : Int).toNat (⟨(rd_T31 x8_1 (ji22)).f0, wrap64 ((rd t224 (ji28)) - 1)⟩ : S31)) ji28) else (none)) else (none)) = some r := by first | (rw [hji28] at H; exact H) | (simp only [hji28] at H ⊢; exact H)
                 (try rw [hji28] at c6b0)
                 have hji28w : (IntKind.i64.wrap (x9_1 + 1)) = ji28 := (i64_w _).trans hji28
                 by_cases c29 : 0 ≤ (ji28)
                 ·rw [if_pos c29] at H
                  have c29b0 : decide (0 ≤ (ji28)) = true := decide_eq_true c29
                  clear c29
                  by_cases c30 : (ji28) < (t224.length : Int)
                  ·rw [if_pos c30] at H
                   have c30b0 : decide ((ji28) < (t224.length : Int)) = true := decide_eq_true c30
                   clear c30
                   obtain ⟨y234, hy234⟩ : ∃ y_ : List (S31), y_ = (x8_1.set ((ji22) : Int).toNat (⟨(rd_T31 x8_1 (ji22)).f0, wrap64 ((rd t224 (ji28)) - 1)⟩ : S31)) := ⟨_, rfl⟩
                   replace H : (caravanref1_Mix.l0 kj14 a0 l1 l2 t224 y234 ji28) = some r := by first | (rw [hy234]; with_reducible exact H) | (have H2_ := (Option.bind_some _ _).symm.trans H; rw [hy234]; with_reducible exact H2_) | (have H2_ := (Option.bind_some _ _).symm.trans H; with_reducible exact H2_) | with_reducible exact H | (rw [hy234]; exact H) | exact H
                   have Ny234 := Aside0.mk hy234
                   clear hy234
                   have H' := Aside0.mk H
                   clear H
                   try go_wp2
                   have n0_ := Aside0.mk (Kd.R_drew HO_7.out)
                   have n1_ := Aside0.mk (Kd.R_drew HO_8.out)
                   have n2_ := Aside0.mk (below_drew1 HB.out)
                   clear HO_7
                   clear HO_8
                   clear HB
                   have HO_7 := n0_
                   have HO_8 := n1_
                   have HB := n2_
                   clear n0_ n1_ n2_
                   obtain ⟨Ao33, co33, eo33⟩ := Kd.R_slice HO_8.out
                   (first | subst eo33 | (injection eo33 with f1_ f2_ f3_; have f4_ := f1_.symm; have f5_ := f3_.symm; clear f1_ f2_ f3_; subst f4_; subst f5_))
                   have p231 : 0 ≤ ((ji22) : Int) := of_decide_eq_true (by first | (with_reducible assumption) | assumption)
                   have q231 : (ji22) < (x8_1.length : Int) := of_decide_eq_true (by first | (with_reducible assumption) | assumption)
                   obtain ⟨ad231, e231, hx231_0, hx231_1⟩ := at_T31 (Kd.R_reads' HO_8.out).2.2 (ji22) p231 q231
                   cases e231
                   replace p231 := eq_true p231
                   replace q231 := eq_true q231
                   have p232 : 0 ≤ (x9_1 : Int) := of_decide_eq_true (by first | (with_reducible assumption) | assumption)
                   have q232 : x9_1 < (t224.length : Int) := of_decide_eq_true (by first | (with_reducible assumption) | assumption)
                   obtain ⟨ad232, e232, hx232_0⟩ := Kd.at_int (Kd.R_reads' HO_7.out).2.2 x9_1 p232 q232
                   obtain rfl : ad227 = ad232 := (by injection e232)
                   replace p232 := eq_true p232
                   replace q232 := eq_true q232
                   refine start_ (n := 19) (S := fun w' => w'.cell? (ad231.add (((ji22)).toNat * 2)) = some (.int .i64 ((rd_T31 x8_1 (ji22)).f0)) ∧ w'.cell? ⟨(ad231.add (((ji22)).toNat * 2)).block, (ad231.add (((ji22)).toNat * 2)).off + 1, none⟩ = some (.int .i64 ((rd_T31 x8_1 (ji22)).f1)) ∧ w'.cell? (ad227.add (x9_1).toNat) = some (.int .i64 (rd t224 x9_1))) (ds := []) (ml_ 19 0) (by kernel_rfl) rfl rfl ⟨hx231_0, hx231_1, hx232_0⟩ (fun hHeld => ?_); refine with_tabW caravanref1_Mix.tab15 caravanref1_Mix.bits15 (fun HT_ HW_ => ?_)
                   generalize wc.drew = w32 at HO_7 HO_8 HB hx231_0 hx231_1 hx232_0 hHeld ⊢
                   refine pA_ 0 71 (ml_ 19 1) rfl rfl HT_.out ?_
                   refine pA_ 1 72 (ml_ 19 3) rfl rfl HT_.out ?_
                   refine pA_ 2 73 (ml_ 19 7) rfl rfl HT_.out ?_
                   refine pA_ 3 74 (ml_ 19 15) rfl rfl HT_.out ?_
                   refine pA_ 4 75 (ml_ 19 31) rfl rfl HT_.out ?_
                   refine pA_ 5 76 (ml_ 19 63) rfl rfl HT_.out ?_
                   refine pA_ 6 77 (ml_ 19 127) rfl rfl HT_.out ?_
                   refine pA_ 7 78 (ml_ 19 255) rfl rfl HT_.out ?_
                   refine pA_ 8 79 (ml_ 19 511) rfl rfl HT_.out ?_
                   refine pA_ 9 80 (ml_ 19 1023) rfl rfl HT_.out ?_
                   refine pA_ 11 82 (ml_ 19 3071) rfl rfl HT_.out ?_
                   refine pA_ 12 83 (ml_ 19 7167) rfl rfl HT_.out ?_
                   refine pA_ 13 84 (ml_ 19 15359) rfl rfl HT_.out ?_
                   refine t3_ 10 81 (ml_ 19 16383) rfl rfl HT_.out HW_.out hHeld ?_
                   refine t3_ 14 85 (ml_ 19 32767) rfl rfl HT_.out HW_.out hHeld ?_
                   refine pA_ 15 86 (ml_ 19 65535) rfl rfl HT_.out ?_
                   refine pA_ 16 87 (ml_ 19 131071) rfl rfl HT_.out ?_
                   refine pA_ 17 88 (ml_ 19 262143) rfl rfl HT_.out ?_
                   refine pA_ 18 70 (ml_ 19 524287) rfl rfl HT_.out ?_
                   refine done_ (done_of HT_.out (by kernel_rfl)) ?_
                   have p233 : 0 ≤ ((ji28) : Int) := of_decide_eq_true (by first | (with_reducible assumption) | assumption)
                   have q233 : (ji28) < (t224.length : Int) := of_decide_eq_true (by first | (with_reducible assumption) | assumption)
                   obtain ⟨ad233, e233, hx233_0⟩ := Kd.at_int (Kd.R_reads' HO_7.out).2.2 (ji28) p233 q233
                   obtain rfl : ad227 = ad233 := (by injection e233)
                   replace p233 := eq_true p233
                   replace q233 := eq_true q233
                   have p31 : 0 ≤ ((ji22) : Int) := of_decide_eq_true (by first | (with_reducible assumption) | assumption)
                   have q31 : ((ji22) : Int) < ((x8_1.length : Int) : Int) := of_decide_eq_true (by first | (with_reducible assumption) | assumption)
                   obtain ⟨go31, co31, eo31, gb31, gl31, cl31, HG31⟩ := Kd.R_form HO_8.out (by omega)
                   (first | cases eo31 | (injection eo31 with ea_ en_ ec_; (first | subst ea_ | (injection ea_ with ea_; subst ea_)); subst ec_; clear en_))
                   have GB31 := Aside0.mk gb31
                   have GG31 := Aside0.mk HG31
                   clear gb31 gl31 HG31
                   (first | simp only [add_plain] at hx231_0 | skip)
                   (first | simp only [add_plain] at hx231_1 | skip)
                   obtain ⟨ce31, hcl31, hM31, hcc31, hfr31⟩ := Kd.R_elem HO_8.out z31 ((ji22) : Int) p31 q31
                   obtain rfl := k31_openM hM31
                   have hx31_0 : w32.cell? ⟨go31, ((ji22) : Int).toNat * 2, none⟩ = some (.int .i64 ((rd_T31 x8_1 (ji22)).f0)) := hcc31 0 _ rfl
                   have hx31_1 : w32.cell? ⟨go31, ((ji22) : Int).toNat * 2 + 1, none⟩ = some (.int .i64 ((rd_T31 x8_1 (ji22)).f1)) := hcc31 1 _ rfl
                   have hf31_0 : w32.frozen? ⟨go31, ((ji22) : Int).toNat * 2, none⟩ = false := hfr31 0
                   have hf31_1 : w32.frozen? ⟨go31, ((ji22) : Int).toNat * 2 + 1, none⟩ = false := hfr31 1
                   clear hcl31 hcc31 hfr31 hM31
                   replace p31 := eq_true p31
                   replace q31 := eq_true q31
                   have HX34 := Aside0.mk (show Kd.R k31 31 w32 w.heap.size (fun _ => True) (.slice (some ⟨go31, 0, none⟩) x8_1.length co33) x8_1 from (q8524_ HO_8.out))
                   obtain ⟨ce34, hcl34, hM34, hcc34, hfr34⟩ := Kd.R_elem HX34.out z31 ((ji22) : Int) (of_decide_eq_true (by first | (with_reducible assumption) | assumption)) (by have h_ : ((ji22) : Int) < ((x8_1.length : Int) : Int) := of_decide_eq_true (by first | (with_reducible assumption) | assumption); first | exact h_ | (have e_ := (Kd.R_reads' HO_8.out).1; omega) | simpa using h_)
                   obtain rfl := k31_openM hM34
                   have HP34 := Kd.R_seg HX34.out ((ji22) : Int) (of_decide_eq_true (by first | (with_reducible assumption) | assumption)) (by have h_ : ((ji22) : Int) < ((x8_1.length : Int) : Int) := of_decide_eq_true (by first | (with_reducible assumption) | assumption); first | exact h_ | (have e_ := (Kd.R_reads' HO_8.out).1; omega) | simpa using h_) (seg := [.int .i64 (wrap64 ((rd t224 (ji28)) - 1))]) (j := 1) hcl34 hcc34 (show 2 ≤ 2 from by decide) (x' := (⟨(rd_T31 x8_1 (ji22)).f0, wrap64 ((rd t224 (ji28)) - 1)⟩ : S31)) (k31_mkM _ _ _ (⟨(rd_T31 x8_1 (ji22)).f0, wrap64 ((rd t224 (ji28)) - 1)⟩ : S31) ) (fun _ hk => hk)
                   have hx34_1 := hcc34 1 _ rfl
                   (try simp only [show (k31).sz = 2 from rfl, Nat.mul_one, Nat.add_zero] at hx34_1)
                   have hf34_1 := hfr34 1
                   (try simp only [show (k31).sz = 2 from rfl, Nat.mul_one, Nat.add_zero] at hf34_1)
                   clear hcl34 hcc34 hfr34 hM34
                   try go_wp2_with (first | ((with_reducible refine gate_store (t := 3) (p := 100) rfl ?_); refine store_event (t := 3) (p := 100) (v := ?vo_w35) (w1 := (w32.setCell ⟨go31, ((ji22) : Int).toNat * 2 + 1, none⟩ (.int .i64 (wrap64 ((rd t224 (ji28)) - 1))))) ?hg ?ho ?hn ?hr ?_; (case ho => rfl); (case hg => rfl); (case hn => rfl); (case hr => first | (go_simp; done) | (go_simp; rfl)); intro w35 hw; have hg : w32.grownBy w35 (some go31) := (by rw [hw]; exact HP34.2); have hp_ : Kd.R k31 31 w35 w.heap.size (fun _ => True) (.slice (some ⟨go31, 0, none⟩) x8_1.length co33) y234 := (by rw [hw, Ny234.out]; exact HP34.1); clear HP34; have n0_ := Aside0.mk (Kd.R_over' (v := (.slice (some ⟨go31, 0, none⟩) x8_1.length co33)) (q8524_ HO_7.out) (Kd.R_typed HO_8.out) (by decide) hg); have n1_ := Aside0.mk (hp_); have n2_ := Aside0.mk ((by rw [hw]; exact below_set (HB.out) GB31.out : Below w.heap.size w w35)); clear HO_7; clear HO_8; clear HB; have HO_7 := n0_; have HO_8 := n1_; have HB := n2_; clear n0_ n1_ n2_; clear hg hw hp_))
                   go_roundg kj14
                   case measure => have := HK1.out; have := HJ10.out; have := HJ14.out; omega
                   case rel => exact ⟨(y234), (ji28), (by first | rfl | (simp; done) | (simp only [← hji28] <;> (first | rfl | simp)) | (simp [*]; done)), H', ⟨by have := HK1.out; have := HJ10.out; have := HJ14.out; omega⟩, ⟨by (with_reducible repeat (first | apply Kd.R_alloc | apply Kd.R_drewN | apply Kd.R_drew)); exact HO_7.out⟩, ⟨by (with_reducible repeat (first | apply Kd.R_alloc | apply Kd.R_drewN | apply Kd.R_drew)); exact HO_8.out⟩, ⟨(qdb35_ HB.out)⟩⟩
                  ·rw [if_neg c30] at H
                   exact absurd H (by simp)
                 ·rw [if_neg c29] at H
                  exact absurd H (by simp)
                ·rw [if_neg c27] at H
                 have c27b0 : (((rd_T31 x8_1 (ji22)).f1) == (wrap64 ((rd t224 x9_1) - 1))) = false := beq_eq_false_iff_ne.mpr c27
                 have c27b1 : (((rd_T31 x8_1 (ji22)).f1) != (wrap64 ((rd t224 x9_1) - 1))) = true := bne_iff_ne.mpr c27
                 obtain ⟨ji36, hji36⟩ : ∃ j_ : Int, (wrap64 (x9_1 + 1)) = j_ := ⟨_, rfl⟩
                 replace H : (if 0 ≤ (ji36) then (if (ji36) < (t224.length : Int) then (if x8_1.length < 8796093022208 then (caravanref1_Mix.l0 kj14 a0 l1 l2 t224 (x8_1 ++ [(⟨rd t224 x9_1, wrap64 ((rd t224 (ji36)) - 1)⟩ : S31)]) ji36) else (none)) else (none)) else (none)) = some r := by first | (rw [hji36] at H; exact H) | (simp only [hji36] at H ⊢; exact H)
                 (try rw [hji36] at c6b0)
                 have hji36w : (IntKind.i64.wrap (x9_1 + 1)) = ji36 := (i64_w _).trans hji36
                 by_cases c37 : 0 ≤ (ji36)
                 ·rw [if_pos c37] at H
                  have c37b0 : decide (0 ≤ (ji36)) = true := decide_eq_true c37
                  clear c37
                  by_cases c38 : (ji36) < (t224.length : Int)
                  ·rw [if_pos c38] at H
                   have c38b0 : decide ((ji36) < (t224.length : Int)) = true := decide_eq_true c38
                   clear c38
                   by_cases c39 : x8_1.length < 8796093022208
                   ·rw [if_pos c39] at H
                    have LMc39 := Aside0.mk c39
                    clear c39
                    obtain ⟨y237, hy237⟩ : ∃ y_ : List (S31), y_ = (x8_1 ++ [(⟨rd t224 x9_1, wrap64 ((rd t224 (ji36)) - 1)⟩ : S31)]) := ⟨_, rfl⟩
                    replace H : (caravanref1_Mix.l0 kj14 a0 l1 l2 t224 y237 ji36) = some r := by first | (rw [hy237]; with_reducible exact H) | (have H2_ := (Option.bind_some _ _).symm.trans H; rw [hy237]; with_reducible exact H2_) | (have H2_ := (Option.bind_some _ _).symm.trans H; with_reducible exact H2_) | with_reducible exact H | (rw [hy237]; exact H) | exact H
                    have Ny237 := Aside0.mk hy237
                    clear hy237
                    have H' := Aside0.mk H
                    clear H
                    try go_wp2
                    have n0_ := Aside0.mk (Kd.R_drew HO_7.out)
                    have n1_ := Aside0.mk (Kd.R_drew HO_8.out)
                    have n2_ := Aside0.mk (below_drew1 HB.out)
                    clear HO_7
                    clear HO_8
                    clear HB
                    have HO_7 := n0_
                    have HO_8 := n1_
                    have HB := n2_
                    clear n0_ n1_ n2_
                    obtain ⟨Ao41, co41, eo41⟩ := Kd.R_slice HO_8.out
                    (first | subst eo41 | (injection eo41 with f1_ f2_ f3_; have f4_ := f1_.symm; have f5_ := f3_.symm; clear f1_ f2_ f3_; subst f4_; subst f5_))
                    have p231 : 0 ≤ ((ji22) : Int) := of_decide_eq_true (by first | (with_reducible assumption) | assumption)
                    have q231 : (ji22) < (x8_1.length : Int) := of_decide_eq_true (by first | (with_reducible assumption) | assumption)
                    obtain ⟨ad231, e231, hx231_0, hx231_1⟩ := at_T31 (Kd.R_reads' HO_8.out).2.2 (ji22) p231 q231
                    cases e231
                    replace p231 := eq_true p231
                    replace q231 := eq_true q231
                    have p232 : 0 ≤ (x9_1 : Int) := of_decide_eq_true (by first | (with_reducible assumption) | assumption)
                    have q232 : x9_1 < (t224.length : Int) := of_decide_eq_true (by first | (with_reducible assumption) | assumption)
                    obtain ⟨ad232, e232, hx232_0⟩ := Kd.at_int (Kd.R_reads' HO_7.out).2.2 x9_1 p232 q232
                    obtain rfl : ad227 = ad232 := (by injection e232)
                    replace p232 := eq_true p232
                    replace q232 := eq_true q232
                    refine start_ (n := 19) (S := fun w' => w'.cell? (ad231.add (((ji22)).toNat * 2)) = some (.int .i64 ((rd_T31 x8_1 (ji22)).f0)) ∧ w'.cell? ⟨(ad231.add (((ji22)).toNat * 2)).block, (ad231.add (((ji22)).toNat * 2)).off + 1, none⟩ = some (.int .i64 ((rd_T31 x8_1 (ji22)).f1)) ∧ w'.cell? (ad227.add (x9_1).toNat) = some (.int .i64 (rd t224 x9_1))) (ds := []) (ml_ 19 0) (by kernel_rfl) rfl rfl ⟨hx231_0, hx231_1, hx232_0⟩ (fun hHeld => ?_); refine with_tabW caravanref1_Mix.tab15 caravanref1_Mix.bits15 (fun HT_ HW_ => ?_)
                    generalize wc.drew = w40 at HO_7 HO_8 HB hx231_0 hx231_1 hx232_0 hHeld ⊢
                    refine pA_ 0 71 (ml_ 19 1) rfl rfl HT_.out ?_
                    refine pA_ 1 72 (ml_ 19 3) rfl rfl HT_.out ?_
                    refine pA_ 2 73 (ml_ 19 7) rfl rfl HT_.out ?_
                    refine pA_ 3 74 (ml_ 19 15) rfl rfl HT_.out ?_
                    refine pA_ 4 75 (ml_ 19 31) rfl rfl HT_.out ?_
                    refine pA_ 5 76 (ml_ 19 63) rfl rfl HT_.out ?_
                    refine pA_ 6 77 (ml_ 19 127) rfl rfl HT_.out ?_
                    refine pA_ 7 78 (ml_ 19 255) rfl rfl HT_.out ?_
                    refine pA_ 8 79 (ml_ 19 511) rfl rfl HT_.out ?_
                    refine pA_ 9 80 (ml_ 19 1023) rfl rfl HT_.out ?_
                    refine pA_ 11 82 (ml_ 19 3071) rfl rfl HT_.out ?_
                    refine pA_ 12 83 (ml_ 19 7167) rfl rfl HT_.out ?_
                    refine pA_ 13 84 (ml_ 19 15359) rfl rfl HT_.out ?_
                    refine t3_ 10 81 (ml_ 19 16383) rfl rfl HT_.out HW_.out hHeld ?_
                    refine t3_ 14 85 (ml_ 19 32767) rfl rfl HT_.out HW_.out hHeld ?_
                    refine pA_ 15 86 (ml_ 19 65535) rfl rfl HT_.out ?_
                    refine pA_ 16 87 (ml_ 19 131071) rfl rfl HT_.out ?_
                    refine pA_ 17 88 (ml_ 19 262143) rfl rfl HT_.out ?_
                    refine pA_ 18 70 (ml_ 19 524287) rfl rfl HT_.out ?_
                    refine done_ (done_of HT_.out (by kernel_rfl)) ?_
                    try go_wp2
                    have n0_ := Aside0.mk (Kd.R_drew HO_7.out)
                    have n1_ := Aside0.mk (Kd.R_drew HO_8.out)
                    have n2_ := Aside0.mk (below_drew1 HB.out)
                    clear HO_7
                    clear HO_8
                    clear HB
                    have HO_7 := n0_
                    have HO_8 := n1_
                    have HB := n2_
                    clear n0_ n1_ n2_
                    have p235 : 0 ≤ (x9_1 : Int) := of_decide_eq_true (by first | (with_reducible assumption) | assumption)
                    have q235 : x9_1 < (t224.length : Int) := of_decide_eq_true (by first | (with_reducible assumption) | assumption)
                    obtain ⟨ad235, e235, hx235_0⟩ := Kd.at_int (Kd.R_reads' HO_7.out).2.2 x9_1 p235 q235
                    obtain rfl : ad227 = ad235 := (by injection e235)
                    replace p235 := eq_true p235
                    replace q235 := eq_true q235
                    have p236 : 0 ≤ ((ji36) : Int) := of_decide_eq_true (by first | (with_reducible assumption) | assumption)
                    have q236 : (ji36) < (t224.length : Int) := of_decide_eq_true (by first | (with_reducible assumption) | assumption)
                    obtain ⟨ad236, e236, hx236_0⟩ := Kd.at_int (Kd.R_reads' HO_7.out).2.2 (ji36) p236 q236
                    obtain rfl : ad227 = ad236 := (by injection e236)
                    replace p236 := eq_true p236
                    replace q236 := eq_true q236
                    refine start_ (n := 15) (S := fun w' => w'.cell? (ad227.add (x9_1).toNat) = some (.int .i64 (rd t224 x9_1)) ∧ w'.cell? (ad227.add ((ji36)).toNat) = some (.int .i64 (rd t224 (ji36)))) (ds := [12, 13]) (ml_ 15 0) (by kernel_rfl) rfl rfl ⟨hx235_0, hx236_0⟩ (fun hHeld => ?_); refine with_tabW caravanref1_Mix.tab13 caravanref1_Mix.bits13 (fun HT_ HW_ => ?_)
                    generalize w40.drew = w42 at HO_7 HO_8 HB hx235_0 hx236_0 hHeld ⊢
                    refine pA_ 0 53 (ml_ 15 1) rfl rfl HT_.out ?_
                    refine pA_ 1 54 (ml_ 15 3) rfl rfl HT_.out ?_
                    refine pA_ 2 55 (ml_ 15 7) rfl rfl HT_.out ?_
                    refine pA_ 3 56 (ml_ 15 15) rfl rfl HT_.out ?_
                    refine pA_ 5 58 (ml_ 15 47) rfl rfl HT_.out ?_
                    refine pA_ 6 59 (ml_ 15 111) rfl rfl HT_.out ?_
                    refine pA_ 7 60 (ml_ 15 239) rfl rfl HT_.out ?_
                    refine pA_ 8 61 (ml_ 15 495) rfl rfl HT_.out ?_
                    refine t2_ 4 57 (ml_ 15 511) rfl rfl HT_.out HW_.out hHeld ?_
                    refine t2_ 9 62 (ml_ 15 1023) rfl rfl HT_.out HW_.out hHeld ?_
                    refine pA_ 10 63 (ml_ 15 2047) rfl rfl HT_.out ?_
                    refine pA_ 11 64 (ml_ 15 4095) rfl rfl HT_.out ?_
                    refine last_ (i := 12) (N := some 65) (ml_ 15 8191) rfl rfl (one_of HT_.out (by kernel_rfl)) (by decide) (fun K hK => ?_)
                    refine value_ (w1 := ?_) (v := ?_) (by rfl) rfl ?_ ?_
                    rotate_left 2
                    ·go_simp
                     constructor
                     ·rfl
                     ·rfl
                    refine hK.out _ _ ?_
                    clear hK K
                    refine nA_ 65 ?_
                    refine last_ (i := 13) (N := some 66) (ml_ 15 16383) rfl rfl (one_of HT_.out (by kernel_rfl)) (by decide) (fun K hK => ?_)
                    refine Kd.R_append_step k31 (w0 := w) w.heap.size (by rfl) (.tmp 53) (.tmp 65) 23 31 (.agg #[(.int .i64 0), (.int .i64 0)]) 16 rfl Tryd.underlying23 info31 rfl (by decide) (by omega) (.slice (some ad231) x8_1.length co41) x8_1 (⟨rd t224 x9_1, wrap64 ((rd t224 (ji36)) - 1)⟩ : S31) [.int .i64 (rd t224 x9_1), .int .i64 (wrap64 ((rd t224 (ji36)) - 1))] (fun _ => True) (fun _ => False) rfl rfl ?aP (fun _ hk => hk.elim) ?aF ?aO ?aB ?aS ?aL ?_
                    (case aP => exact k31_mkM _ _ _ (⟨rd t224 x9_1, wrap64 ((rd t224 (ji36)) - 1)⟩ : S31))
                    (case aB => exact (qdb35_ HB.out))
                    (case aF => exact (fun _ _ => trivial))
                    (case aO => exact (q8524_ HO_8.out))
                    (case aS => exact (below_size (qdb35_ HB.out)))
                    (case aL => have := LMc39.out; omega)
                    intro v238 w43 ho hb hg hat
                    rw [← Ny237.out] at ho
                    have n0_ := Aside0.mk (Kd.R_over' (q8524_ HO_7.out) (Kd.R_typed (q8524_ HO_8.out)) (by decide) hg)
                    have n1_ := Aside0.mk (hb)
                    have n2_ := Aside0.mk (ho)
                    clear HO_7
                    clear HB
                    clear HO_8
                    have HO_7 := n0_
                    have HB := n1_
                    have HO239 := n2_
                    clear n0_ n1_ n2_
                    clear ho hb hg hat
                    refine hK.out _ _ ?_
                    clear hK K
                    refine nA_ 66 ?_
                    refine pA_ 14 8 (ml_ 15 32767) rfl rfl HT_.out ?_
                    refine done_ (done_of HT_.out (by kernel_rfl)) ?_
                    try go_wp2
                    go_roundg kj14
                    case measure => have := HK1.out; have := HJ10.out; have := HJ14.out; omega
                    case rel => exact ⟨(y237), (ji36), (by first | rfl | (simp; done) | (simp only [← hji36] <;> (first | rfl | simp)) | (simp [*]; done)), H', ⟨by have := HK1.out; have := HJ10.out; have := HJ14.out; omega⟩, ⟨by (with_reducible repeat (first | apply Kd.R_alloc | apply Kd.R_drewN | apply Kd.R_drew)); exact HO_7.out⟩, ⟨by (with_reducible repeat (first | apply Kd.R_alloc | apply Kd.R_drewN | apply Kd.R_drew)); exact HO239.out⟩, ⟨(qdb35_ HB.out)⟩⟩
                   ·rw [if_neg c39] at H
                    exact absurd H (by simp)
                  ·rw [if_neg c38] at H
                   exact absurd H (by simp)
                 ·rw [if_neg c37] at H
                  exact absurd H (by simp)
               ·rw [if_neg c26] at H
                exact absurd H (by simp)
              ·rw [if_neg c25] at H
               exact absurd H (by simp)
             ·rw [if_neg c24] at H
              exact absurd H (by simp)
            ·rw [if_neg c23] at H
             exact absurd H (by simp)
           ·rw [if_neg c21] at H
            have c21b0 : decide (0 < (x8_1.length : Int)) = false := decide_eq_false c21
            have c21b1 : decide (0 < x8_1.length) = false := decide_eq_false (by omega)
            clear c21
            by_cases c44 : 0 ≤ x9_1
            ·rw [if_pos c44] at H
             have c44b0 : decide (0 ≤ x9_1) = true := decide_eq_true c44
             clear c44
             by_cases c45 : x9_1 < (t224.length : Int)
             ·rw [if_pos c45] at H
              have c45b0 : decide (x9_1 < (t224.length : Int)) = true := decide_eq_true c45
              clear c45
              obtain ⟨ji46, hji46⟩ : ∃ j_ : Int, (wrap64 (x9_1 + 1)) = j_ := ⟨_, rfl⟩
              replace H : (if 0 ≤ (ji46) then (if (ji46) < (t224.length : Int) then (if x8_1.length < 8796093022208 then (caravanref1_Mix.l0 kj14 a0 l1 l2 t224 (x8_1 ++ [(⟨rd t224 x9_1, wrap64 ((rd t224 (ji46)) - 1)⟩ : S31)]) ji46) else (none)) else (none)) else (none)) = some r := by first | (rw [hji46] at H; exact H) | (simp only [hji46] at H ⊢; exact H)
              (try rw [hji46] at c6b0)
              have hji46w : (IntKind.i64.wrap (x9_1 + 1)) = ji46 := (i64_w _).trans hji46
              by_cases c47 : 0 ≤ (ji46)
              ·rw [if_pos c47] at H
               have c47b0 : decide (0 ≤ (ji46)) = true := decide_eq_true c47
               clear c47
               by_cases c48 : (ji46) < (t224.length : Int)
               ·rw [if_pos c48] at H
                have c48b0 : decide ((ji46) < (t224.length : Int)) = true := decide_eq_true c48
                clear c48
                by_cases c49 : x8_1.length < 8796093022208
                ·rw [if_pos c49] at H
                 have LMc49 := Aside0.mk c49
                 clear c49
                 obtain ⟨y242, hy242⟩ : ∃ y_ : List (S31), y_ = (x8_1 ++ [(⟨rd t224 x9_1, wrap64 ((rd t224 (ji46)) - 1)⟩ : S31)]) := ⟨_, rfl⟩
                 replace H : (caravanref1_Mix.l0 kj14 a0 l1 l2 t224 y242 ji46) = some r := by first | (rw [hy242]; with_reducible exact H) | (have H2_ := (Option.bind_some _ _).symm.trans H; rw [hy242]; with_reducible exact H2_) | (have H2_ := (Option.bind_some _ _).symm.trans H; with_reducible exact H2_) | with_reducible exact H | (rw [hy242]; exact H) | exact H
                 have Ny242 := Aside0.mk hy242
                 clear hy242
                 have H' := Aside0.mk H
                 clear H
                 try go_wp2
                 have n0_ := Aside0.mk (Kd.R_drew HO_7.out)
                 have n1_ := Aside0.mk (Kd.R_drew HO_8.out)
                 have n2_ := Aside0.mk (below_drew1 HB.out)
                 clear HO_7
                 clear HO_8
                 clear HB
                 have HO_7 := n0_
                 have HO_8 := n1_
                 have HB := n2_
                 clear n0_ n1_ n2_
                 obtain ⟨Ao51, co51, eo51⟩ := Kd.R_slice HO_8.out
                 (first | subst eo51 | (injection eo51 with f1_ f2_ f3_; have f4_ := f1_.symm; have f5_ := f3_.symm; clear f1_ f2_ f3_; subst f4_; subst f5_))
                 refine start_ (n := 19) (S := fun w' => True) (ds := []) (ml_ 19 0) (by kernel_rfl) rfl rfl trivial (fun hHeld => ?_); refine with_tabW caravanref1_Mix.tab15 caravanref1_Mix.bits15 (fun HT_ HW_ => ?_)
                 generalize wc.drew = w50 at HO_7 HO_8 HB hHeld ⊢
                 refine pA_ 0 71 (ml_ 19 1) rfl rfl HT_.out ?_
                 refine pA_ 1 72 (ml_ 19 3) rfl rfl HT_.out ?_
                 refine pA_ 2 73 (ml_ 19 7) rfl rfl HT_.out ?_
                 refine pA_ 3 74 (ml_ 19 15) rfl rfl HT_.out ?_
                 refine pU_ 4 75 (ml_ 19 31) rfl rfl HT_.out ?_
                 refine pU_ 5 76 (ml_ 19 63) rfl rfl HT_.out ?_
                 refine pU_ 6 77 (ml_ 19 127) rfl rfl HT_.out ?_
                 refine pU_ 7 78 (ml_ 19 255) rfl rfl HT_.out ?_
                 refine pU_ 8 79 (ml_ 19 511) rfl rfl HT_.out ?_
                 refine pU_ 9 80 (ml_ 19 1023) rfl rfl HT_.out ?_
                 refine pU_ 10 81 (ml_ 19 2047) rfl rfl HT_.out ?_
                 refine pU_ 11 82 (ml_ 19 4095) rfl rfl HT_.out ?_
                 refine pU_ 12 83 (ml_ 19 8191) rfl rfl HT_.out ?_
                 refine pU_ 13 84 (ml_ 19 16383) rfl rfl HT_.out ?_
                 refine pU_ 14 85 (ml_ 19 32767) rfl rfl HT_.out ?_
                 refine pU_ 15 86 (ml_ 19 65535) rfl rfl HT_.out ?_
                 refine pU_ 16 87 (ml_ 19 131071) rfl rfl HT_.out ?_
                 refine pA_ 17 88 (ml_ 19 262143) rfl rfl HT_.out ?_
                 refine pA_ 18 70 (ml_ 19 524287) rfl rfl HT_.out ?_
                 refine done_ (done_of HT_.out (by kernel_rfl)) ?_
                 try go_wp2
                 have n0_ := Aside0.mk (Kd.R_drew HO_7.out)
                 have n1_ := Aside0.mk (Kd.R_drew HO_8.out)
                 have n2_ := Aside0.mk (below_drew1 HB.out)
                 clear HO_7
                 clear HO_8
                 clear HB
                 have HO_7 := n0_
                 have HO_8 := n1_
                 have HB := n2_
                 clear n0_ n1_ n2_
                 have p240 : 0 ≤ (x9_1 : Int) := of_decide_eq_true (by first | (with_reducible assumption) | assumption)
                 have q240 : x9_1 < (t224.length : Int) := of_decide_eq_true (by first | (with_reducible assumption) | assumption)
                 obtain ⟨ad240, e240, hx240_0⟩ := Kd.at_int (Kd.R_reads' HO_7.out).2.2 x9_1 p240 q240
                 obtain rfl : ad227 = ad240 := (by injection e240)
                 replace p240 := eq_true p240
                 replace q240 := eq_true q240
                 have p241 : 0 ≤ ((ji46) : Int) := of_decide_eq_true (by first | (with_reducible assumption) | assumption)
                 have q241 : (ji46) < (t224.length : Int) := of_decide_eq_true (by first | (with_reducible assumption) | assumption)
                 obtain ⟨ad241, e241, hx241_0⟩ := Kd.at_int (Kd.R_reads' HO_7.out).2.2 (ji46) p241 q241
                 obtain rfl : ad227 = ad241 := (by injection e241)
                 replace p241 := eq_true p241
                 replace q241 := eq_true q241
                 refine start_ (n := 15) (S := fun w' => w'.cell? (ad227.add (x9_1).toNat) = some (.int .i64 (rd t224 x9_1)) ∧ w'.cell? (ad227.add ((ji46)).toNat) = some (.int .i64 (rd t224 (ji46)))) (ds := [12, 13]) (ml_ 15 0) (by kernel_rfl) rfl rfl ⟨hx240_0, hx241_0⟩ (fun hHeld => ?_); refine with_tabW caravanref1_Mix.tab13 caravanref1_Mix.bits13 (fun HT_ HW_ => ?_)
                 generalize w50.drew = w52 at HO_7 HO_8 HB hx240_0 hx241_0 hHeld ⊢
                 refine pA_ 0 53 (ml_ 15 1) rfl rfl HT_.out ?_
                 refine pA_ 1 54 (ml_ 15 3) rfl rfl HT_.out ?_
                 refine pA_ 2 55 (ml_ 15 7) rfl rfl HT_.out ?_
                 refine pA_ 3 56 (ml_ 15 15) rfl rfl HT_.out ?_
                 refine pA_ 5 58 (ml_ 15 47) rfl rfl HT_.out ?_
                 refine pA_ 6 59 (ml_ 15 111) rfl rfl HT_.out ?_
                 refine pA_ 7 60 (ml_ 15 239) rfl rfl HT_.out ?_
                 refine pA_ 8 61 (ml_ 15 495) rfl rfl HT_.out ?_
                 refine t2_ 4 57 (ml_ 15 511) rfl rfl HT_.out HW_.out hHeld ?_
                 refine t2_ 9 62 (ml_ 15 1023) rfl rfl HT_.out HW_.out hHeld ?_
                 refine pA_ 10 63 (ml_ 15 2047) rfl rfl HT_.out ?_
                 refine pA_ 11 64 (ml_ 15 4095) rfl rfl HT_.out ?_
                 refine last_ (i := 12) (N := some 65) (ml_ 15 8191) rfl rfl (one_of HT_.out (by kernel_rfl)) (by decide) (fun K hK => ?_)
                 refine value_ (w1 := ?_) (v := ?_) (by rfl) rfl ?_ ?_
                 rotate_left 2
                 ·go_simp
                  constructor
                  ·rfl
                  ·rfl
                 refine hK.out _ _ ?_
                 clear hK K
                 refine nA_ 65 ?_
                 refine last_ (i := 13) (N := some 66) (ml_ 15 16383) rfl rfl (one_of HT_.out (by kernel_rfl)) (by decide) (fun K hK => ?_)
                 refine Kd.R_append_step k31 (w0 := w) w.heap.size (by rfl) (.tmp 53) (.tmp 65) 23 31 (.agg #[(.int .i64 0), (.int .i64 0)]) 16 rfl Tryd.underlying23 info31 rfl (by decide) (by omega) (.slice Ao51 x8_1.length co51) x8_1 (⟨rd t224 x9_1, wrap64 ((rd t224 (ji46)) - 1)⟩ : S31) [.int .i64 (rd t224 x9_1), .int .i64 (wrap64 ((rd t224 (ji46)) - 1))] (fun _ => True) (fun _ => False) rfl rfl ?aP (fun _ hk => hk.elim) ?aF ?aO ?aB ?aS ?aL ?_
                 (case aP => exact k31_mkM _ _ _ (⟨rd t224 x9_1, wrap64 ((rd t224 (ji46)) - 1)⟩ : S31))
                 (case aB => exact (qdb35_ HB.out))
                 (case aF => exact (fun _ _ => trivial))
                 (case aO => exact (q8524_ HO_8.out))
                 (case aS => exact (below_size (qdb35_ HB.out)))
                 (case aL => have := LMc49.out; omega)
                 intro v243 w53 ho hb hg hat
                 rw [← Ny242.out] at ho
                 have n0_ := Aside0.mk (Kd.R_over' (q8524_ HO_7.out) (Kd.R_typed (q8524_ HO_8.out)) (by decide) hg)
                 have n1_ := Aside0.mk (hb)
                 have n2_ := Aside0.mk (ho)
                 clear HO_7
                 clear HB
                 clear HO_8
                 have HO_7 := n0_
                 have HB := n1_
                 have HO244 := n2_
                 clear n0_ n1_ n2_
                 clear ho hb hg hat
                 refine hK.out _ _ ?_
                 clear hK K
                 refine nA_ 66 ?_
                 refine pA_ 14 8 (ml_ 15 32767) rfl rfl HT_.out ?_
                 refine done_ (done_of HT_.out (by kernel_rfl)) ?_
                 try go_wp2
                 go_roundg kj14
                 case measure => have := HK1.out; have := HJ10.out; have := HJ14.out; omega
                 case rel => exact ⟨(y242), (ji46), (by first | rfl | (simp; done) | (simp only [← hji46] <;> (first | rfl | simp)) | (simp [*]; done)), H', ⟨by have := HK1.out; have := HJ10.out; have := HJ14.out; omega⟩, ⟨by (with_reducible repeat (first | apply Kd.R_alloc | apply Kd.R_drewN | apply Kd.R_drew)); exact HO_7.out⟩, ⟨by (with_reducible repeat (first | apply Kd.R_alloc | apply Kd.R_drewN | apply Kd.R_drew)); exact HO244.out⟩, ⟨(qdb35_ HB.out)⟩⟩
                ·rw [if_neg c49] at H
                 exact absurd H (by simp)
               ·rw [if_neg c48] at H
                exact absurd H (by simp)
              ·rw [if_neg c47] at H
               exact absurd H (by simp)
             ·rw [if_neg c45] at H
              exact absurd H (by simp)
            ·rw [if_neg c44] at H
             exact absurd H (by simp)
          ·replace c20 := Bool.eq_false_iff.mpr c20
           subst c20
           have H1 : (caravanref1_Mix.l0 kj14 a0 l1 l2 t224 x8_1 (wrap64 (x9_1 + 1))) = some r := by rw [if_neg (show ¬ (false = true) by decide)] at H; exact H
           clear H
           have H := H1
           clear H1
           have H' := Aside0.mk H
           clear H
           go_wp2
           go_roundg kj14
           case measure => have := HK1.out; have := HJ10.out; have := HJ14.out; omega
           case rel => exact ⟨(x8_1), (wrap64 (x9_1 + 1)), (by first | rfl | (simp; done) | (simp [*]; done)), H', ⟨by have := HK1.out; have := HJ10.out; have := HJ14.out; omega⟩, ⟨by (with_reducible repeat (first | apply Kd.R_alloc | apply Kd.R_drewN | apply Kd.R_drew)); exact HO_7.out⟩, ⟨by (with_reducible repeat (first | apply Kd.R_alloc | apply Kd.R_drewN | apply Kd.R_drew)); exact HO_8.out⟩, ⟨(qdb35_ HB.out)⟩⟩
     ·rw [if_neg c8] at H
      exact absurd H (by simp)
    ·rw [if_neg c7] at H
     exact absurd H (by simp)
   ·rw [if_neg c6] at H
    have c6b0 : decide ((wrap64 (x9_1 + 1)) < (t224.length : Int)) = false := decide_eq_false c6
    clear c6
    obtain rfl := Option.some.inj H
    obtain ⟨Ao54, co54, eo54⟩ := Kd.R_slice HO_7.out
    subst eo54
    go_wp2
    go_ret
    exact ⟨_, by first | rfl | (simp [errW_none, errW_some] <;> rfl) | (simp [*, errW_none, errW_some] <;> rfl), by (with_reducible repeat (first | apply Kd.R_alloc | apply Kd.R_drewN | apply Kd.R_drew)); exact HO_8.out, (qdb35_ HB.out)⟩

end Go.Proofs.YtnlakdpfkgjdaaaDoor.G

/- What functions of the translation come to, and their calls' proofs; by a program of mine over the kit's print, with contracts given by hand beside. Conditions: where a plain function tells none, nothing is said. -/
namespace Go.Proofs.YtnlakdpfkgjdaaaDoor.G
open Go.RowKit Go.Proofs.YtnlakdpfkgjdaaaDoorW.PrintWords Go.Proofs.YtnlakdpfkgjdaaaDoorW.PrintLast Go.Proofs.YtnlakdpfkgjdaaaDoorW.PrintMore
attribute [local go_sem] max2_int min2_int max_two min_two max_three min_three max_four min_four   -- for this text's walks alone
set_option linter.unusedVariables false
set_option linter.unusedSimpArgs false

/-! ### caravanref1_Norm: function 17 -/
def caravanref1_Norm.f (k : Nat) (l0 : List (S31)) : Option ((List (S31))) := (caravanref1_Mix.f k 0 l0 ([] : List (S31))).bind fun t245 => (some t245)
theorem caravanref1_Norm.mono : ∀ a0 k, LeO (caravanref1_Norm.f k a0) (caravanref1_Norm.f (k + 1) a0) := by
 intro a0 k
 unfold caravanref1_Norm.f
 repeat' first
  | (with_reducible exact caravanref1_Mix.mono _ _ _ _)
  | (with_reducible exact LeO.refl _)
  | (with_reducible exact LeO.none _)
  | (with_reducible refine LeO.ite ?_ ?_)
  | (with_reducible refine LeO.bind ?_ (fun _ => ?_))
  | exact caravanref1_Mix.mono _ _ _ _
  | exact LeO.none _
  | refine LeO.ite ?_ ?_
  | refine LeO.bind ?_ (fun _ => ?_)
set_option maxHeartbeats 8000000 in
set_option maxRecDepth 100000 in
theorem caravanref1_Norm.calls (k : Nat) (A0 : Option Addr) (c0 : Nat) (l0 : List (S31)) (r : List (S31)) (w : World) (hr0 : Kd.C k31 w A0 l0.length l0) (hc0 : l0.length ≤ c0) (h : caravanref1_Norm.f k l0 = some r) :
 Calls Tryd.prog 17 #[.slice A0 l0.length c0] w fun e w' => ∃ v0_ : Value, e = .returned (v0_) ∧ Kd.R k31 31 w' w.heap.size (fun _ => True) v0_ r ∧ Below w.heap.size w w' := by
 have HR0 := Aside0.mk hr0
 have HC0 := Aside0.mk hc0
 clear hr0 hc0
 have HB := Aside0.mk (Below.refl w.heap.size w)
 have H : ((caravanref1_Mix.f k 0 l0 ([] : List (S31))).bind fun t245 => (some t245)) = some r := h
 clear h
 replace H := Option.bind_eq_some_iff.mp H
 obtain ⟨t245, A20, H⟩ := H
 replace H : (some t245) = some r := H
 have A2 := Aside0.mk A20
 clear A20
 obtain rfl := Option.some.inj H
 go_enter Tryd.func17, Tryd.ntmps17
 go_wp2_with (first | ((with_reducible refine gate_callee (f := 25) rfl ?_); refine goesL_ (some 4) rfl rfl Tryd.func25 (by kernel_rfl) rfl #[.int .i64 0, .slice A0 l0.length c0, .slice none 0 0] rfl qM_ ?_; (refine (caravanref1_Mix.calls k 0 _ _ l0 _ _ ([] : List (S31)) t245 _ ?side1 ?side2 ?side3 ?side4 A2.out).mono ?_); (case side1 => exact qC_ (HR0.out)); (case side2 => exact HC0.out); (case side3 => exact Kd.C_nil _ _); (case side4 => exact Nat.le_refl _); rintro e w3 ⟨v246, rfl, ho0, hb⟩; refine ⟨_, rfl, ?_⟩; have n0_ := Aside0.mk (Kd.R_lower ho0 (below_size (qdb35_ HB.out))); have n1_ := Aside0.mk (below_step (qdb35_ HB.out) hb); clear HB; have HO247 := n0_; have HB := n1_; clear n0_ n1_; (try clear hb); (try clear hb2); (try clear hk); (try clear hi); (try clear ho0)))
 go_ret
 exact ⟨_, by first | rfl | (simp [errW_none, errW_some] <;> rfl) | (simp [*, errW_none, errW_some] <;> rfl), by (with_reducible repeat (first | apply Kd.R_alloc | apply Kd.R_drewN | apply Kd.R_drew)); exact HO247.out, (qdb35_ HB.out)⟩

end Go.Proofs.YtnlakdpfkgjdaaaDoor.G

/- What functions of the translation come to, and their calls' proofs; by a program of mine over the kit's print, with contracts given by hand beside. Conditions: where a plain function tells none, nothing is said. -/
namespace Go.Proofs.YtnlakdpfkgjdaaaDoor.G
open Go.RowKit Go.Proofs.YtnlakdpfkgjdaaaDoorW.PrintWords Go.Proofs.YtnlakdpfkgjdaaaDoorW.PrintLast Go.Proofs.YtnlakdpfkgjdaaaDoorW.PrintMore
attribute [local go_sem] max2_int min2_int max_two min_two max_three min_three max_four min_four   -- for this text's walks alone
set_option linter.unusedVariables false
set_option linter.unusedSimpArgs false

theorem eqA31 (d : Nat) (w : World) (x0 y0 : Int) (x1 y1 : Int) :
    (Op.equalIn (d + 2) 31 (.agg #[.int .i64 x0, .int .i64 x1]) (.agg #[.int .i64 y0, .int .i64 y1])).run Tryd.prog w = .ok (x0 == y0 && (x1 == y1)) w := by
  refine eqA_of Tryd.underlying31 (by kernel_rfl) ?_
  refine eqf_cons (by rfl) (by go_simp; rfl) (by go_simp; rfl) (by go_simp) ?_
  exact eqf_last (by rfl) (by go_simp; rfl) (by go_simp; rfl) (by go_simp)
end Go.Proofs.YtnlakdpfkgjdaaaDoor.G

/- What functions of the translation come to, and their calls' proofs; by a program of mine over the kit's print, with contracts given by hand beside. Conditions: where a plain function tells none, nothing is said. -/
namespace Go.Proofs.YtnlakdpfkgjdaaaDoor.G
open Go.RowKit Go.Proofs.YtnlakdpfkgjdaaaDoorW.PrintWords Go.Proofs.YtnlakdpfkgjdaaaDoorW.PrintLast Go.Proofs.YtnlakdpfkgjdaaaDoorW.PrintMore
attribute [local go_sem] max2_int min2_int max_two min_two max_three min_three max_four min_four   -- for this text's walks alone
set_option linter.unusedVariables false
set_option linter.unusedSimpArgs false

end Go.Proofs.YtnlakdpfkgjdaaaDoor.G

/- What functions of the translation come to, and their calls' proofs; by a program of mine over the kit's print, with contracts given by hand beside. Conditions: where a plain function tells none, nothing is said. -/
namespace Go.Proofs.YtnlakdpfkgjdaaaDoor.G
open Go.RowKit Go.Proofs.YtnlakdpfkgjdaaaDoorW.PrintWords Go.Proofs.YtnlakdpfkgjdaaaDoorW.PrintLast Go.Proofs.YtnlakdpfkgjdaaaDoorW.PrintMore
attribute [local go_sem] max2_int min2_int max_two min_two max_three min_three max_four min_four   -- for this text's walks alone
set_option linter.unusedVariables false
set_option linter.unusedSimpArgs false

attribute [local go_sem high] eqA31
/-! ### caravanref1_SameSpans: function 12 -/
def caravanref1_SameSpans.l0 : Nat → List (S31) → List (S31) → Int → Option (Bool)
 | 0, _, _, _ => none
 | k + 1, x0, x1, x5 => if x5 < (x0.length : Int) then (if 0 ≤ x5 then (if x5 < (x1.length : Int) then (if (!(((rd_T31 x0 x5).f0) == ((rd_T31 x1 x5).f0)) || (!(((rd_T31 x0 x5).f1) == ((rd_T31 x1 x5).f1)))) = true then (some false) else (caravanref1_SameSpans.l0 k x0 x1 (wrap64 (x5 + 1)))) else (none)) else (none)) else (some true)
def caravanref1_SameSpans.f (k : Nat) (l0 : List (S31)) (l1 : List (S31)) : Option (Bool) := if (l0.length : Int) = (l1.length : Int) then (caravanref1_SameSpans.l0 k l0 l1 0) else (some false)
theorem caravanref1_SameSpans.mono_l : ∀ k, (∀ y0 y1 y2, LeO (caravanref1_SameSpans.l0 k y0 y1 y2) (caravanref1_SameSpans.l0 (k + 1) y0 y1 y2))
 | 0 => fun _ _ _ r h => by simp [caravanref1_SameSpans.l0] at h
 | k + 1 => by
  have ih0 := caravanref1_SameSpans.mono_l k
  ·intro y0 y1 y2
   unfold caravanref1_SameSpans.l0
   repeat' first
   | (with_reducible exact ih0 _ _ _)
   | (with_reducible exact LeO.refl _)
   | (with_reducible exact LeO.none _)
   | (with_reducible refine LeO.ite ?_ ?_)
   | (with_reducible refine LeO.bind ?_ (fun _ => ?_))
   | exact ih0 _ _ _
   | exact LeO.none _
   | refine LeO.ite ?_ ?_
   | refine LeO.bind ?_ (fun _ => ?_)
theorem caravanref1_SameSpans.mono : ∀ a0 a1 k, LeO (caravanref1_SameSpans.f k a0 a1) (caravanref1_SameSpans.f (k + 1) a0 a1) := by
 intro a0 a1 k
 have ih0 := caravanref1_SameSpans.mono_l k
 unfold caravanref1_SameSpans.f
 repeat' first
  | (with_reducible exact ih0 _ _ _)
  | (with_reducible exact LeO.refl _)
  | (with_reducible exact LeO.none _)
  | (with_reducible refine LeO.ite ?_ ?_)
  | (with_reducible refine LeO.bind ?_ (fun _ => ?_))
  | exact ih0 _ _ _
  | exact LeO.none _
  | refine LeO.ite ?_ ?_
  | refine LeO.bind ?_ (fun _ => ?_)
set_option maxHeartbeats 8000000 in
set_option maxRecDepth 100000 in
theorem caravanref1_SameSpans.calls (k : Nat) (A0 : Option Addr) (c0 : Nat) (l0 : List (S31)) (A1 : Option Addr) (c1 : Nat) (l1 : List (S31)) (r : Bool) (w : World) (hr0 : Kd.C k31 w A0 l0.length l0) (hc0 : l0.length ≤ c0) (hr1 : Kd.C k31 w A1 l1.length l1) (hc1 : l1.length ≤ c1) (h : caravanref1_SameSpans.f k l0 l1 = some r) :
 Calls Tryd.prog 12 #[.slice A0 l0.length c0, .slice A1 l1.length c1] w fun e w' => e = .returned (.bool r) ∧ Drawn0 w w' := by
 have hu31 := Tryd.underlying31
 have HR0 := Aside0.mk hr0
 have HC0 := Aside0.mk hc0
 clear hr0 hc0
 have HR1 := Aside0.mk hr1
 have HC1 := Aside0.mk hc1
 clear hr1 hc1
 have H : (if (l0.length : Int) = (l1.length : Int) then (caravanref1_SameSpans.l0 k l0 l1 0) else (some false)) = some r := h
 clear h
 by_cases c3 : (l0.length : Int) = (l1.length : Int)
 ·rw [if_pos c3] at H
  have c3b0 : ((l0.length : Int) == (l1.length : Int)) = true := beq_iff_eq.mpr c3
  have c3b1 : ((l0.length : Int) != (l1.length : Int)) = false := bne_eq_false_iff_eq.mpr c3
  have c3b2 : (l0.length == l1.length) = true := by first | simpa using c3 | (simp at c3 ⊢; omega)
  clear c3
  have H' := Aside0.mk H
  clear H
  go_enter Tryd.func12, Tryd.ntmps12
  go_wp2
  repeat (go_quiet (fail); try go_wp2)
  go_loopg [5] k (fun kq v5 w' => ∃ (x5_1 : Int), v5 = .int .i64 x5_1 ∧ Aside0 (caravanref1_SameSpans.l0 kq l0 l1 x5_1 = some r) ∧ Aside0 (kq ≤ k) ∧ Drawn0 w w')
  case atStart => exact ⟨(0), (by first | rfl | (simp; done) | (simp [*]; done)), H', ⟨Nat.le_refl _⟩, (by repeat (first | exact Drawn0.refl _ | apply Drawn0.step))⟩
  case round =>
   clear H'
   try clear c1
   try clear p2
   try clear c3
   try clear c3b0
   try clear c3b1
   try clear c3b2
   obtain ⟨x5_1, rfl, HA, HK1, ⟨m1, rfl⟩⟩ := hrel
   cases gk with
   | zero => exact absurd HA.out (by simp [caravanref1_SameSpans.l0])
   | succ k1 =>
    have H := HA.out
    clear HA
    simp only [caravanref1_SameSpans.l0] at H
    by_cases c4 : x5_1 < (l0.length : Int)
    ·rw [if_pos c4] at H
     have c4b0 : decide (x5_1 < (l0.length : Int)) = true := decide_eq_true c4
     clear c4
     by_cases c5 : 0 ≤ x5_1
     ·rw [if_pos c5] at H
      have c5b0 : decide (0 ≤ x5_1) = true := decide_eq_true c5
      clear c5
      by_cases c6 : x5_1 < (l1.length : Int)
      ·rw [if_pos c6] at H
       have c6b0 : decide (x5_1 < (l1.length : Int)) = true := decide_eq_true c6
       clear c6
       by_cases c7 : (!(((rd_T31 l0 x5_1).f0) == ((rd_T31 l1 x5_1).f0)) || (!(((rd_T31 l0 x5_1).f1) == ((rd_T31 l1 x5_1).f1)))) = true
       ·rw [if_pos c7] at H
        have c7b0 : (!(((rd_T31 l0 x5_1).f0) == ((rd_T31 l1 x5_1).f0)) || (!(((rd_T31 l0 x5_1).f1) == ((rd_T31 l1 x5_1).f1)))) = true := c7
        clear c7
        obtain rfl := Option.some.inj H
        have p265 : 0 ≤ (x5_1 : Int) := of_decide_eq_true (by first | (with_reducible assumption) | assumption)
        have q265 : x5_1 < (l0.length : Int) := of_decide_eq_true (by first | (with_reducible assumption) | assumption)
        obtain ⟨ad265, e265, hx265_0, hx265_1⟩ := at_T31 HR0.out x5_1 p265 q265
        cases e265
        replace p265 := eq_true p265
        replace q265 := eq_true q265
        have p266 : 0 ≤ (x5_1 : Int) := of_decide_eq_true (by first | (with_reducible assumption) | assumption)
        have q266 : x5_1 < (l1.length : Int) := of_decide_eq_true (by first | (with_reducible assumption) | assumption)
        obtain ⟨ad266, e266, hx266_0, hx266_1⟩ := at_T31 HR1.out x5_1 p266 q266
        cases e266
        replace p266 := eq_true p266
        replace q266 := eq_true q266
        go_wp2
        repeat (go_quiet (fail); try go_wp2)
        go_ret
        exact ⟨by first | rfl | (simp; done) | (simp [*]; done), (by repeat (first | exact Drawn0.refl _ | apply Drawn0.step))⟩
       ·rw [if_neg c7] at H
        have c7b0 : (!(((rd_T31 l0 x5_1).f0) == ((rd_T31 l1 x5_1).f0)) || (!(((rd_T31 l0 x5_1).f1) == ((rd_T31 l1 x5_1).f1)))) = false := by simpa using c7
        clear c7
        have H' := Aside0.mk H
        clear H
        have p265 : 0 ≤ (x5_1 : Int) := of_decide_eq_true (by first | (with_reducible assumption) | assumption)
        have q265 : x5_1 < (l0.length : Int) := of_decide_eq_true (by first | (with_reducible assumption) | assumption)
        obtain ⟨ad265, e265, hx265_0, hx265_1⟩ := at_T31 HR0.out x5_1 p265 q265
        cases e265
        replace p265 := eq_true p265
        replace q265 := eq_true q265
        have p266 : 0 ≤ (x5_1 : Int) := of_decide_eq_true (by first | (with_reducible assumption) | assumption)
        have q266 : x5_1 < (l1.length : Int) := of_decide_eq_true (by first | (with_reducible assumption) | assumption)
        obtain ⟨ad266, e266, hx266_0, hx266_1⟩ := at_T31 HR1.out x5_1 p266 q266
        cases e266
        replace p266 := eq_true p266
        replace q266 := eq_true q266
        go_wp2
        repeat (go_quiet (fail); try go_wp2)
        go_roundg k1
        case measure => have := HK1.out; omega
        case rel => exact ⟨(wrap64 (x5_1 + 1)), (by first | rfl | (simp; done) | (simp [*]; done)), H', ⟨by have := HK1.out; omega⟩, (by repeat (first | exact Drawn0.refl _ | apply Drawn0.step))⟩
      ·rw [if_neg c6] at H
       exact absurd H (by simp)
     ·rw [if_neg c5] at H
      exact absurd H (by simp)
    ·rw [if_neg c4] at H
     have c4b0 : decide (x5_1 < (l0.length : Int)) = false := decide_eq_false c4
     clear c4
     obtain rfl := Option.some.inj H
     go_wp2
     repeat (go_quiet (fail); try go_wp2)
     go_ret
     exact ⟨by first | rfl | (simp; done) | (simp [*]; done), (by repeat (first | exact Drawn0.refl _ | apply Drawn0.step))⟩
 ·rw [if_neg c3] at H
  have c3b0 : ((l0.length : Int) == (l1.length : Int)) = false := beq_eq_false_iff_ne.mpr c3
  have c3b1 : ((l0.length : Int) != (l1.length : Int)) = true := bne_iff_ne.mpr c3
  have c3b2 : (l0.length == l1.length) = false := by first | simpa using c3 | (simp at c3 ⊢; omega)
  obtain rfl := Option.some.inj H
  go_enter Tryd.func12, Tryd.ntmps12
  go_wp2
  repeat (go_quiet (fail); try go_wp2)
  go_ret
  exact ⟨by first | rfl | (simp; done) | (simp [*]; done), (by repeat (first | exact Drawn0.refl _ | apply Drawn0.step))⟩

end Go.Proofs.YtnlakdpfkgjdaaaDoor.G

/- What the reference's functions on spans come to: MaySpans, Has, marks, Mix, Norm, SameSpans. Conditions: bounds on lengths. -/
namespace Go.Proofs.YtnlakdpfkgjdaaaDoor.G
open Go.RowKit Go.Pk Go.Cav Go.Proofs.YtnlakdpfkgjdaaaDoorW.PrintWords Go.Proofs.YtnlakdpfkgjdaaaDoorW.PrintLast Go.Proofs.YtnlakdpfkgjdaaaDoorW.PrintMore
theorem wj (j : Nat) (h : j ≤ 1000000000000000) : wrap64 ((j : Int) + 1) = ((j + 1 : Nat) : Int) := by rw [w64 _ (by omega) (by omega)]; omega
theorem rmay_loop (l : List S31) (hl : l.length ≤ 1000000000000) : ∀ n j, j + n = l.length → ∀ a : Int, (j = 0 → a = -1) → (∀ i, j = i + 1 → ∀ hi : i < l.length, a = l[i].f1 + 1) → -1 ≤ a → a ≤ 16384 →
    Ev (fun k => caravanref1_MaySpans.l0 k l (j : Int)) (decide (mayF a (l.drop j)))
  | 0, j, hj, a, _, _, _, _ => by
    refine Ev.next (f := fun _ => some true) (fun k => by rw [caravanref1_MaySpans.l0, if_neg (by omega)]) (Ev.const ?_)
    rw [List.drop_of_length_le (by omega)]
    exact congrArg some (decide_eq_true (p := mayF a []) trivial).symm
  | n + 1, j, hj, a, h0, h1, h2, h3 => by
    have hlt : j < l.length := by omega
    have ew := wj j (by omega)
    have hm : mayF a (l[j] :: l.drop (j + 1)) ↔ a < l[j].f0 ∧ l[j].f0 ≤ l[j].f1 ∧ l[j].f1 ≤ 16383 ∧ mayF (l[j].f1 + 1) (l.drop (j + 1)) := Iff.rfl
    rw [List.drop_eq_getElem_cons hlt]
    have no : ¬ mayF a (l[j] :: l.drop (j + 1)) → (∀ k, caravanref1_MaySpans.l0 (k + 1) l (j : Int) = some false) → Ev (fun k => caravanref1_MaySpans.l0 k l (j : Int)) (decide (mayF a (l[j] :: l.drop (j + 1)))) := fun hn hk =>
      Ev.next (f := fun _ => some false) hk (Ev.const (by rw [decide_eq_false hn]))
    have st : ∀ k, caravanref1_MaySpans.l0 (k + 1) l (j : Int) = (if l[j].f0 < 0 then (some false) else (if l[j].f1 < l[j].f0 then (some false) else (if l[j].f1 ≥ 16384 then (some false) else (if (j : Int) > 0 then (if 0 ≤ (wrap64 ((j : Int) - 1)) then (if (wrap64 ((j : Int) - 1)) < (l.length : Int) then (if l[j].f0 ≤ (wrap64 (((rd_T31 l (wrap64 ((j : Int) - 1))).f1) + 1)) then (some false) else (caravanref1_MaySpans.l0 k l ((j + 1 : Nat) : Int))) else (none)) else (none)) else (caravanref1_MaySpans.l0 k l ((j + 1 : Nat) : Int)))))) := fun k => by
      rw [caravanref1_MaySpans.l0, if_pos (by omega), if_pos (by omega), rd_at l j hlt, ew]
    by_cases c2 : l[j].f0 < 0
    · exact no (fun h => by have := (hm.1 h).1; omega) (fun k => by rw [st, if_pos c2])
    by_cases c3 : l[j].f1 < l[j].f0
    · exact no (fun h => by have := (hm.1 h).2.1; omega) (fun k => by rw [st, if_neg c2, if_pos c3])
    by_cases c4 : l[j].f1 ≥ 16384
    · exact no (fun h => by have := (hm.1 h).2.2.1; omega) (fun k => by rw [st, if_neg c2, if_neg c3, if_pos c4])
    have st2 : ∀ k, caravanref1_MaySpans.l0 (k + 1) l (j : Int) = if l[j].f0 ≤ a then some false else caravanref1_MaySpans.l0 k l ((j + 1 : Nat) : Int) := fun k => by
      rw [st, if_neg c2, if_neg c3, if_neg c4]
      cases j with
      | zero => rw [if_neg (by omega), if_neg (by rw [h0 rfl]; omega)]
      | succ i =>
        have hi : i < l.length := by omega
        have e1 : wrap64 (((i + 1 : Nat) : Int) - 1) = (i : Int) := by rw [w64 _ (by omega) (by omega)]; omega
        have e2 := h1 i rfl hi
        rw [if_pos (by omega), e1, if_pos (by omega), if_pos (by omega), rd_at l i hi, w64 _ (by omega) (by omega), ← e2]
    by_cases c1 : l[j].f0 ≤ a
    · exact no (fun h => by have := (hm.1 h).1; omega) (fun k => by rw [st2, if_pos c1])
    · refine Ev.next (fun k => by rw [st2, if_neg c1]) (Ev.same (rmay_loop l hl n (j + 1) (by omega) (l[j].f1 + 1) (by omega) (fun i e hi => by cases e; rfl) (by omega) (by omega)) ?_)
      exact decide_eq_decide.2 ⟨fun h => hm.2 ⟨by omega, by omega, by omega, h⟩, fun h => (hm.1 h).2.2.2⟩
theorem rmay_ev (l : List S31) (hl : l.length ≤ 1000000000000) : Ev (fun k => caravanref1_MaySpans.f k l) (mayB l) :=
  rmay_loop l hl l.length 0 (by omega) (-1) (fun _ => rfl) (fun i e => by cases e) (by omega) (by omega)
theorem rhas_loop (l : List S31) (hl : l.length ≤ 1000000000000) (x : Int) : ∀ n j, j + n = l.length → Ev (fun k => caravanref1_Has.l0 k l x (j : Int)) (sayS (l.drop j) x)
  | 0, j, hj => by
    refine Ev.next (f := fun _ => some false) (fun k => by rw [caravanref1_Has.l0, if_neg (by omega)]) (Ev.const ?_)
    rw [List.drop_of_length_le (by omega), sayS_nil]
  | n + 1, j, hj => by
    have hlt : j < l.length := by omega
    have ew := wj j (by omega)
    have ih := rhas_loop l hl x n (j + 1) (by omega)
    rw [List.drop_eq_getElem_cons hlt]
    have e : sayS (l[j] :: l.drop (j + 1)) x = ((decide (0 ≤ x) && decide (x ≤ 16383) && (decide (l[j].f0 ≤ x) && decide (x ≤ l[j].f1))) || sayS (l.drop (j + 1)) x) := by
      unfold sayS; rw [hasS_cons]; cases decide (0 ≤ x) <;> cases decide (x ≤ 16383) <;> simp
    by_cases c : x ≥ 0 ∧ x < 16384 ∧ l[j].f0 ≤ x ∧ x ≤ l[j].f1
    · refine Ev.next (f := fun _ => some true) (fun k => by rw [caravanref1_Has.l0, if_pos (by omega), if_pos c.1, if_pos c.2.1, if_pos (by omega), rd_at l j hlt, if_pos c.2.2.1, if_pos c.2.2.2]) (Ev.const ?_)
      rw [e, decide_eq_true (show 0 ≤ x by omega), decide_eq_true (show x ≤ 16383 by omega), decide_eq_true c.2.2.1, decide_eq_true c.2.2.2]; rfl
    · refine Ev.next (fun k => ?_) (Ev.same ih ?_)
      · rw [caravanref1_Has.l0, if_pos (by omega), if_pos (show (0 : Int) ≤ j by omega), rd_at l j hlt, ew]
        by_cases c1 : x ≥ 0
        · rw [if_pos c1]
          by_cases c2 : x < 16384
          · rw [if_pos c2]
            by_cases c3 : l[j].f0 ≤ x
            · rw [if_pos c3, if_neg (fun c4 => c ⟨c1, c2, c3, c4⟩)]
            · rw [if_neg c3]
          · rw [if_neg c2]
        · rw [if_neg c1]
      · rw [e]
        have : (decide (0 ≤ x) && decide (x ≤ 16383) && (decide (l[j].f0 ≤ x) && decide (x ≤ l[j].f1))) = false := by
          rw [Bool.eq_false_iff]
          simp only [ne_eq, Bool.and_eq_true, decide_eq_true_eq]
          omega
        rw [this, Bool.false_or]
theorem rhas_ev (l : List S31) (hl : l.length ≤ 1000000000000) (x : Int) : Ev (fun k => caravanref1_Has.f k l x) (sayS l x) := rhas_loop l hl x l.length 0 (by omega)
theorem mark_ev (l : List Int) (x : Int) (hu : upM l) (hl : l.length ≤ 1000000000) : Ev (fun k => caravanref1_Mark.f k l x) (markL l x) := ⟨l.length + 1, fun k hk => mark_f l x hu hl k hk⟩
theorem marks_loop (a b : List S31) (ha : a.length ≤ 100000000) (hb : b.length ≤ 100000000) (hw : ∀ s ∈ a ++ b, -9223372036854775808 ≤ s.f1) : ∀ n i, i + n = a.length + b.length → ∀ l, upM l → l.length ≤ 2 + 2 * i → Ev (fun k => caravanref1_marks.l0 k a b l (i : Int)) (((a ++ b).drop i).foldl mark1 l)
  | 0, i, hi, l, hu, hl => by
    have e : wrap64 ((a.length : Int) + (b.length : Int)) = (a.length : Int) + (b.length : Int) := w64 _ (by omega) (by omega)
    refine Ev.next (f := fun _ => some l) (fun k => by rw [caravanref1_marks.l0, e, if_neg (by omega)]) (Ev.const ?_)
    rw [List.drop_of_length_le (by rw [List.length_append]; omega)]; rfl
  | n + 1, i, hi, l, hu, hl => by
    have e : wrap64 ((a.length : Int) + (b.length : Int)) = (a.length : Int) + (b.length : Int) := w64 _ (by omega) (by omega)
    have hlt : i < (a ++ b).length := by rw [List.length_append]; omega
    have ew := wj i (by omega)
    rw [List.drop_eq_getElem_cons hlt, List.foldl_cons]
    have hwx := hw (a ++ b)[i] (List.getElem_mem hlt)
    generalize hx : (a ++ b)[i] = x at hwx
    have ih := marks_loop a b ha hb hw n (i + 1) (by omega) (mark1 l x) (mark1_up x hu) (by have := mark1_len l x; omega)
    have hj : Ev (fun k => caravanref1_marks.j1 k a b l (i : Int) x.f0 x.f1) (((a ++ b).drop (i + 1)).foldl mark1 (mark1 l x)) := by
      unfold mark1 at ih ⊢
      by_cases c : x.f0 ≤ x.f1
      · rw [if_pos c] at ih ⊢
        have k1 := mark_ev l x.f0 hu (by omega)
        by_cases d : x.f1 < 16384
        · rw [if_pos d] at ih ⊢
          have hl1 := markL_len l x.f0
          have k2 := mark_ev (markL l x.f0) (x.f1 + 1) (markL_up _ hu) (by omega)
          refine Ev.next (f := fun k => (caravanref1_Mark.f k l x.f0).bind fun t => (caravanref1_Mark.f k t (x.f1 + 1)).bind fun u => caravanref1_marks.l0 k a b u ((i + 1 : Nat) : Int)) (fun k => ?_) (Ev.seq k1 (Ev.seq k2 ih))
          rw [caravanref1_marks.j1, if_pos c, ew]
          congr 1
          funext t
          rw [if_pos d]
          rw [w64 _ (by omega) (by omega)]
        · rw [if_neg d] at ih ⊢
          refine Ev.next (f := fun k => (caravanref1_Mark.f k l x.f0).bind fun t => caravanref1_marks.l0 k a b t ((i + 1 : Nat) : Int)) (fun k => ?_) (Ev.seq k1 ih)
          rw [caravanref1_marks.j1, if_pos c, ew]
          congr 1
          funext t
          rw [if_neg d]
      · rw [if_neg c] at ih ⊢
        exact Ev.next (fun k => by rw [caravanref1_marks.j1, if_neg c, ew]) ih
    refine Ev.next (fun k => ?_) hj
    rw [caravanref1_marks.l0, e, if_pos (by omega)]
    by_cases c : i < a.length
    · have ex : rd_T31 a (i : Int) = x := by rw [rd_at a i c, ← hx, List.getElem_append_left c]
      rw [if_pos (by omega), if_pos (by omega), ex]
    · have e1 : wrap64 ((i : Int) - (a.length : Int)) = ((i - a.length : Nat) : Int) := by rw [w64 _ (by omega) (by omega)]; omega
      have ex : rd_T31 b ((i - a.length : Nat) : Int) = x := by rw [rd_at b (i - a.length) (by omega), ← hx, List.getElem_append_right (by omega)]
      rw [if_neg (by omega), e1, if_pos (by omega), if_pos (by omega), ex]
theorem marks_ev (a b : List S31) (ha : a.length ≤ 100000000) (hb : b.length ≤ 100000000) (hw : ∀ s ∈ a ++ b, -9223372036854775808 ≤ s.f1) : Ev (fun k => caravanref1_marks.f k a b) (marksL (a ++ b)) :=
  Ev.same (marks_loop a b ha hb hw (a.length + b.length) 0 (by omega) [0, 16384] ⟨by decide, trivial⟩ (by simp)) (by rw [List.drop_zero]; rfl)
theorem addM_len (out : List S31) (m m' : Int) : (addM out m m').length ≤ out.length + 1 := by
  unfold addM
  rcases List.eq_nil_or_concat out with rfl | ⟨q, t, rfl⟩
  · simp
  · rw [List.concat_eq_append]; simp; split <;> simp
theorem rd_int (m : List Int) (i : Nat) (h : i < m.length) : rd m (i : Int) = m[i] := by unfold rd; rw [Int.toNat_natCast, List.getD_eq_getElem?_getD, List.getElem?_eq_getElem h]; rfl
theorem mix_loop (how : Int) (a b : List S31) (ha : a.length ≤ 100000000) (hb : b.length ≤ 100000000) (m : List Int) (hm : ∀ y ∈ m, 0 ≤ y ∧ y ≤ 16384) (hml : m.length ≤ 1000000000) :
    ∀ n i, i + n = m.length → ∀ out : List S31, out.length ≤ i → Ev (fun k => caravanref1_Mix.l0 k how a b m out (i : Int)) (mixL (fun n => mixP how (sayS a n) (sayS b n)) (m.drop i) out)
  | 0, i, hi, out, ho => by
    have ew := wj i (by omega)
    refine Ev.next (f := fun _ => some out) (fun k => by rw [caravanref1_Mix.l0, ew, if_neg (by omega)]) (Ev.const ?_)
    rw [List.drop_of_length_le (by omega)]; rfl
  | 1, i, hi, out, ho => by
    have ew := wj i (by omega)
    refine Ev.next (f := fun _ => some out) (fun k => by rw [caravanref1_Mix.l0, ew, if_neg (by omega)]) (Ev.const ?_)
    rw [List.drop_eq_getElem_cons (by omega), List.drop_of_length_le (by omega)]; rfl
  | n + 2, i, hi, out, ho => by
    have ew := wj i (by omega)
    have h1 : i < m.length := by omega
    have h2 : i + 1 < m.length := by omega
    have r1 := rd_int m i h1
    have r2 := rd_int m (i + 1) h2
    have b1 := hm m[i] (List.getElem_mem h1)
    have b2 := hm m[i + 1] (List.getElem_mem h2)
    rw [List.drop_eq_getElem_cons h1, List.drop_eq_getElem_cons h2, mixL, ← List.drop_eq_getElem_cons h2]
    have ih := mix_loop how a b ha hb m hm hml (n + 1) (i + 1) (by omega) (if mixP how (sayS a m[i]) (sayS b m[i]) = true then addM out m[i] m[i + 1] else out) (by have := addM_len out m[i] m[i + 1]; split <;> omega)
    generalize hx : m[i] = x at *
    generalize hy : m[i + 1] = y at *
    have e1 : wrap64 (x - 1) = x - 1 := w64 _ (by omega) (by omega)
    have e2 : wrap64 (y - 1) = y - 1 := w64 _ (by omega) (by omega)
    have j2 : Ev (fun k => caravanref1_Mix.j2 k how a b m out (i : Int) (mixP how (sayS a x) (sayS b x))) (mixL (fun n => mixP how (sayS a n) (sayS b n)) (m.drop (i + 1)) (if mixP how (sayS a x) (sayS b x) = true then addM out x y else out)) := by
      generalize mixP how (sayS a x) (sayS b x) = q at ih ⊢
      refine Ev.next (fun k => ?_) ih
      rw [caravanref1_Mix.j2, ew, r1, r2, e1, e2]
      cases q with
      | false => rw [if_neg (by decide), if_neg (by decide)]
      | true =>
        rw [if_pos rfl, if_pos rfl]
        unfold addM
        rcases List.eq_nil_or_concat out with rfl | ⟨q, t, rfl⟩
        · rw [if_neg (by simp), if_pos (by omega), if_pos (by omega), if_pos (by omega), if_pos (by omega), if_pos (by simp)]; rfl
        · rw [List.concat_eq_append] at ho ⊢
          have hq : (q ++ [t]).length = q.length + 1 := by simp
          have f1 : wrap64 (((q ++ [t]).length : Int) - 1) = (q.length : Int) := by rw [hq, w64 _ (by omega) (by omega)]; omega
          have f2 : rd_T31 (q ++ [t]) (q.length : Int) = t := by rw [rd_at _ _ (by rw [hq]; omega)]; simp
          rw [show (q ++ [t]).getLast? = some t by simp, if_pos (by rw [hq]; omega), f1, if_pos (by omega), if_pos (by rw [hq]; omega), if_pos (by omega), if_pos (by omega), f2]
          dsimp only
          by_cases c : t.f1 = x - 1
          · rw [if_pos c, if_pos c, if_pos (by omega), if_pos (by omega), Int.toNat_natCast, step_set, List.dropLast_concat]
          · rw [if_neg c, if_neg c, if_pos (by omega), if_pos (by omega), if_pos (by rw [hq]; omega)]
    have j1 : Ev (fun k => caravanref1_Mix.j1 k how a b m out (i : Int) (sayS a x) (sayS b x) (sayS a x || sayS b x)) (mixL (fun n => mixP how (sayS a n) (sayS b n)) (m.drop (i + 1)) (if mixP how (sayS a x) (sayS b x) = true then addM out x y else out)) := by
      refine Ev.next (fun k => ?_) j2
      rw [caravanref1_Mix.j1]
      unfold mixP
      by_cases c1 : how = 1
      · rw [if_pos c1, if_pos c1]; cases sayS a x <;> rfl
      · rw [if_neg c1, if_neg c1]
        by_cases c2 : how = 2
        · rw [if_pos c2, if_pos c2]; cases sayS a x <;> rfl
        · rw [if_neg c2, if_neg c2]
    have ka := rhas_ev a (by omega) x
    have kb := rhas_ev b (by omega) x
    refine Ev.next (f := fun k => (caravanref1_Has.f k a x).bind fun t => (caravanref1_Has.f k b x).bind fun u => if t = true then caravanref1_Mix.j1 k how a b m out (i : Int) t u true else caravanref1_Mix.j1 k how a b m out (i : Int) t u u) (fun k => ?_) (Ev.seq ka (Ev.seq kb (Ev.fn (fun k => ?_) j1)))
    · rw [caravanref1_Mix.l0, ew, r1, if_pos (by omega), if_pos (by omega), if_pos (by omega)]
    · cases sayS a x with
      | true => rw [if_pos rfl, Bool.true_or]
      | false => rw [if_neg (by decide), Bool.false_or]
theorem mix_ev (how : Int) (a b : List S31) (ha : a.length ≤ 100000000) (hb : b.length ≤ 100000000) (hw : ∀ s ∈ a ++ b, -9223372036854775808 ≤ s.f1) : Ev (fun k => caravanref1_Mix.f k how a b) (mixR how a b) := by
  have hs := marks_spec (a ++ b)
  have hl := hs.2.2.2.2.1
  rw [List.length_append] at hl
  exact Ev.seq (marks_ev a b ha hb hw) (mix_loop how a b ha hb (marksL (a ++ b)) hs.2.1 (by omega) (marksL (a ++ b)).length 0 (by omega) [] (by simp))
theorem rnorm_ev (a : List S31) (ha : a.length ≤ 100000000) (hw : ∀ s ∈ a, -9223372036854775808 ≤ s.f1) : Ev (fun k => caravanref1_Norm.f k a) (normS a) :=
  Ev.seq (mix_ev 0 a [] ha (by simp) (by simpa using hw)) (Ev.const (congrArg some (mixR_norm a)))
theorem same_loop (a b : List S31) (ha : a.length ≤ 1000000000000) (he : a.length = b.length) : ∀ n j, j + n = a.length → Ev (fun k => caravanref1_SameSpans.l0 k a b (j : Int)) (decide (a.drop j = b.drop j))
  | 0, j, hj => by
    refine Ev.next (f := fun _ => some true) (fun k => by rw [caravanref1_SameSpans.l0, if_neg (by omega)]) (Ev.const ?_)
    rw [List.drop_of_length_le (by omega), List.drop_of_length_le (by omega)]; rfl
  | n + 1, j, hj => by
    have h1 : j < a.length := by omega
    have h2 : j < b.length := by omega
    have ew := wj j (by omega)
    have ih := same_loop a b ha he n (j + 1) (by omega)
    have st : ∀ k, caravanref1_SameSpans.l0 (k + 1) a b (j : Int) = if (!(a[j].f0 == b[j].f0) || (!(a[j].f1 == b[j].f1))) = true then some false else caravanref1_SameSpans.l0 k a b ((j + 1 : Nat) : Int) := fun k => by
      rw [caravanref1_SameSpans.l0, if_pos (by omega), if_pos (by omega), if_pos (by omega), rd_at a j h1, rd_at b j h2, ew]
    rw [List.drop_eq_getElem_cons h1, List.drop_eq_getElem_cons h2]
    by_cases c : a[j] = b[j]
    · refine Ev.next (fun k => by rw [st, if_neg (by rw [c]; simp)]) (Ev.same ih (dec_yes c _ _))
    · refine Ev.next (f := fun _ => some false) (fun k => by
        rw [st, if_pos]
        rw [Bool.or_eq_true, Bool.not_eq_true', Bool.not_eq_true', beq_eq_false_iff_ne, beq_eq_false_iff_ne]
        by_cases d : a[j].f0 = b[j].f0
        · refine .inr fun e => c ?_
          cases hA : a[j]; cases hB : b[j]
          rw [hA, hB] at d e
          simp only at d e; rw [d, e]
        · exact .inl d) (Ev.const (congrArg some (dec_no c _ _)))
theorem same_ev (a b : List S31) (ha : a.length ≤ 1000000000000) : Ev (fun k => caravanref1_SameSpans.f k a b) (decide (a = b)) := by
  by_cases c : a.length = b.length
  · exact Ev.fn (fun k => by unfold caravanref1_SameSpans.f; rw [if_pos (by omega)]; rfl) (Ev.same (same_loop a b ha c a.length 0 (by omega)) (by rw [List.drop_zero, List.drop_zero]))
  · exact Ev.fn (f := fun _ => some false) (fun k => by unfold caravanref1_SameSpans.f; rw [if_neg (by omega)]) (Ev.const (by rw [decide_eq_false (fun e => c (by rw [e]))]))
end Go.Proofs.YtnlakdpfkgjdaaaDoor.G

/- What the program's functions on spans come to from some number of rounds on. Conditions: bounds on lengths. -/
namespace Go.Proofs.YtnlakdpfkgjdaaaDoor.Pure
open Go.RowKit Go.Pk Go.Cav Go.Proofs.YtnlakdpfkgjdaaaDoor.G Go.Proofs.YtnlakdpfkgjdaaaDoorW.PrintWords Go.Proofs.YtnlakdpfkgjdaaaDoorW.PrintLast Go.Proofs.YtnlakdpfkgjdaaaDoorW.PrintMore
theorem awake_ev : Ev (fun k => caravanlaw2_awake.f k) true := ⟨3, fun k hk => by
  obtain ⟨d, rfl⟩ : ∃ d, k = d + 3 := ⟨k - 3, by omega⟩
  exact awake_ok d⟩
/-- from some number of rounds on -/
theorem ev_from {α : Type} {g : Nat → Option α} {r : α} (n : Nat) (h : ∀ k, g (k + n + 1) = some r) : Ev g r := ⟨n + 1, fun k hk => by
  obtain ⟨d, rfl⟩ : ∃ d, k = d + n + 1 := ⟨k - (n + 1), by omega⟩
  exact h d⟩
theorem pmay_ev (l : List S31) (hl : l.length ≤ 1000000) : Ev (fun k => spans_May.f k l) (mayB l) := ev_from l.length (may_f l (by omega))
theorem pnorm_ev (l : List S31) (hl : l.length ≤ 1000000) : Ev (fun k => spans_Norm.f k l) (normS l) := ev_from l.length (norm_f l (by omega))
theorem pcount_ev (l : List S31) (hl : l.length ≤ 1000000) : Ev (fun k => spans_Count.f k l) (widS (normS l)) := ev_from l.length (count_f l (by omega))
theorem ptext_ev (l : List S31) (hl : l.length ≤ 1000000) : Ev (fun k => spans_Text.f k l) (textS l) := ev_from l.length (text_f l (by omega))
theorem phas (l : List S31) (n : Int) (hl : l.length ≤ 1000000) : spans_Has.f l n = some (sayS l n) := by unfold spans_Has.f; rw [if_pos (by omega)]
theorem awake_some : Ev (fun k => (caravanlaw2_awake.f k).bind fun u => some u) true := Ev.seq awake_ev (f := fun _ u => some u) (Ev.now true)
theorem if_true_ev {α : Type} {a b : Nat → Option α} {p : Bool} {r : α} (hp : p = true) (h : Ev a r) : Ev (fun k => if p = true then a k else b k) r := Ev.fn (fun k => by rw [if_pos hp]) h
end Go.Proofs.YtnlakdpfkgjdaaaDoor.Pure

/- spans.Union in the print's words. Condition: a bound on the lists' lengths. -/
namespace Go.Proofs.YtnlakdpfkgjdaaaDoor.G
open Go.RowKit Go.Cav Go.Proofs.YtnlakdpfkgjdaaaDoorW.PrintWords Go.Proofs.YtnlakdpfkgjdaaaDoorW.PrintLast Go.Proofs.YtnlakdpfkgjdaaaDoorW.PrintMore
attribute [local go_sem] Oper.semAt_some
set_option maxRecDepth 100000 in
set_option maxHeartbeats 4000000 in
theorem union_any (A0 : Option Addr) (c0 : Nat) (l0 : List S31) (A1 : Option Addr) (c1 : Nat) (l1 : List S31) (w : World) (hr0 : Kd.C k31 w A0 l0.length l0) (hr1 : Kd.C k31 w A1 l1.length l1) (h0 : l0.length ≤ 400000000) (h1 : l1.length ≤ 400000000) :
    Calls Tryd.prog 24 #[.slice A0 l0.length c0, .slice A1 l1.length c1] w fun e w' => ∃ v0_ : Value, e = .returned (v0_) ∧ Kd.R k31 31 w' w.heap.size (fun _ => True) v0_ (normS (l0 ++ l1)) ∧ Below w.heap.size w w' := by
  have hb : Below w.heap.size w (w.alloc (.cells #[.slice A0 l0.length c0, .slice A1 l1.length c1] 23)) := (Below.refl w.heap.size w).alloc (Nat.le_refl _) _
  have hk := heap_alloc_new w (.cells #[.slice A0 l0.length c0, .slice A1 l1.length c1] 23)
  have hC := concat_calls w.heap.size A0 c0 l0 A1 c1 l1 (w.alloc (.cells #[.slice A0 l0.length c0, .slice A1 l1.length c1] 23)) ((cell_of_row _ _ 0 _ _ _ hk).trans rfl) ((cell_of_row _ _ 1 _ _ _ hk).trans rfl) (Kd.C_below hr0 hb) (Kd.C_below hr1 hb) (by omega) (by omega)
  have HB := Lib.hid hb
  clear hb hk hr0 hr1
  go_enter Tryd.func24, Tryd.ntmps24
  go_wp2_with fail
  refine hC.mono ?_
  rintro e w1 ⟨v1, rfl, hR, hB1⟩
  obtain ⟨A2, c2, rfl⟩ := Kd.R_slice hR
  have hrd := Kd.R_reads' hR
  have hN := norm_any A2 c2 (l0 ++ l1) w1 hrd.2.2 hrd.2.1 (by simp; omega)
  have HB1 := Lib.hid (HB.out.trans (hB1.mono HB.out.size))
  clear hC hR hrd hB1 HB
  generalize (l0 ++ l1).length = m at hN ⊢
  go_wp2_with fail
  refine hN.mono ?_
  rintro e w2 ⟨v2, rfl, hR, hB2⟩
  have HR := Lib.hid (Kd.R_lower hR HB1.out.size)
  have HB2 := Lib.hid (HB1.out.trans (hB2.mono HB1.out.size))
  clear hN hR hB2 HB1
  go_wp2
  go_ret
  exact ⟨_, rfl, HR.out, HB2.out⟩
def spans_Union.f (l0 : List S31) (l1 : List S31) : Option (List S31) := if l0.length ≤ 400000000 ∧ l1.length ≤ 400000000 then some (normS (l0 ++ l1)) else none
theorem spans_Union.calls (A0 : Option Addr) (c0 : Nat) (l0 : List S31) (A1 : Option Addr) (c1 : Nat) (l1 : List S31) (r : List S31) (w : World) (hr0 : Kd.C k31 w A0 l0.length l0) (_hc0 : l0.length ≤ c0) (hr1 : Kd.C k31 w A1 l1.length l1) (_hc1 : l1.length ≤ c1) (h : spans_Union.f l0 l1 = some r) :
    Calls Tryd.prog 24 #[.slice A0 l0.length c0, .slice A1 l1.length c1] w fun e w' => ∃ v0_ : Value, e = .returned (v0_) ∧ Kd.R k31 31 w' w.heap.size (fun _ => True) v0_ r ∧ Below w.heap.size w w' := by
  unfold spans_Union.f at h
  split at h
  case isFalse => cases h
  case isTrue hb =>
    obtain rfl := Option.some.inj h
    exact union_any A0 c0 l0 A1 c1 l1 w hr0 hr1 hb.1 hb.2
end Go.Proofs.YtnlakdpfkgjdaaaDoor.G

/- What Both and Minus say, and how many slots; what both texts of spans come to in the laws. Conditions: bounds on lengths. -/
namespace Go.Proofs.YtnlakdpfkgjdaaaDoor.Pure
open Go.RowKit Go.Pk Go.Cav Go.Proofs.YtnlakdpfkgjdaaaDoor.G Go.Proofs.YtnlakdpfkgjdaaaDoorW.PrintWords Go.Proofs.YtnlakdpfkgjdaaaDoorW.PrintLast Go.Proofs.YtnlakdpfkgjdaaaDoorW.PrintMore
theorem say_in {l : List S31} {n : Int} (h : sayS l n = true) : 0 ≤ n ∧ n ≤ 16383 := by
  unfold sayS at h
  simp only [Bool.and_eq_true, decide_eq_true_eq] at h
  exact h.1
theorem both_spec (x y : List S31) : mayS (bothS x y) ∧ ∀ n, hasS (bothS x y) n = (sayS x n && sayS y n) := by
  unfold bothS
  refine ⟨(norm_spec _).1, fun n => ?_⟩
  rw [(norm_spec _).2]
  have hx := norm_spec x
  have hy := norm_spec y
  have hp := pairs_has ((normS x).length + (normS y).length) (normS x) (normS y) (-1) (-1) (Nat.le_refl _) hx.1 hy.1 n
  rw [hx.2, hy.2] at hp
  unfold sayS at hp ⊢
  rw [hp]
  cases decide (0 ≤ n) <;> cases decide (n ≤ 16383) <;> simp
theorem both_say (x y : List S31) (n : Int) : sayS (bothS x y) n = (sayS x n && sayS y n) := by rw [sayS_may (both_spec x y).1, (both_spec x y).2]
theorem gaps_say (y : List S31) (n : Int) : sayS (gapsF 0 (normS y)) n = (decide (0 ≤ n) && decide (n ≤ 16383) && !sayS y n) := by
  by_cases c : 0 ≤ n ∧ n ≤ 16383
  · have hg := gaps_has (normS y) 0 (-1) (norm_spec y).1 (by omega) (by omega) n c.1 c.2
    rw [(norm_spec y).2] at hg
    unfold sayS at hg ⊢
    rw [hg]
  · have : (decide (0 ≤ n) && decide (n ≤ 16383)) = false := by rw [Bool.and_eq_false_iff, decide_eq_false_iff_not, decide_eq_false_iff_not]; omega
    unfold sayS
    rw [this]; rfl
theorem minus_say (x y : List S31) (n : Int) : sayS (minusS x y) n = (sayS x n && !sayS y n) := by
  unfold minusS
  rw [both_say, gaps_say]
  cases h : sayS x n with
  | false => rfl
  | true =>
    have := say_in h
    rw [decide_eq_true this.1, decide_eq_true this.2]; simp
theorem minus_may (x y : List S31) : mayS (minusS x y) := (both_spec _ _).1
theorem mix2 (x y : List S31) : mixR 2 x y = bothS x y := by
  refine mayS_unique (mixR_spec 2 x y).1 (both_spec x y).1 fun n a b => ?_
  rw [← sayS_may (mixR_spec 2 x y).1, ← sayS_may (both_spec x y).1, mixR_say, both_say, decide_eq_true a, decide_eq_true b]
  rfl
theorem mix1 (x y : List S31) : mixR 1 x y = minusS x y := by
  refine mayS_unique (mixR_spec 1 x y).1 (minus_may x y) fun n a b => ?_
  rw [← sayS_may (mixR_spec 1 x y).1, ← sayS_may (minus_may x y), mixR_say, minus_say, decide_eq_true a, decide_eq_true b]
  rfl
theorem both_len (x y : List S31) : (bothS x y).length ≤ x.length + y.length := by
  have a := normS_len ((pairsS ((normS x).length + (normS y).length) (normS x) (normS y)).map meetS)
  have b := pairs_len ((normS x).length + (normS y).length) (normS x) (normS y)
  have c := normS_len x
  have d := normS_len y
  rw [List.length_map] at a
  unfold bothS; omega
theorem minus_len (x y : List S31) : (minusS x y).length ≤ x.length + y.length + 1 := by
  have a := both_len x (gapsF 0 (normS y))
  have b := gaps_len (normS y) 0
  have c := normS_len y
  unfold minusS; omega
theorem wid_say (l : List S31) : widS (normS l) = (numS (sayS l) : Nat) := by
  rw [wid_num (normS l) (-1) (norm_spec l).1 (Int.le_refl _), show numS (hasS (normS l)) = numS (sayS l) from num_ext fun n _ _ => (norm_spec l).2 n]
theorem num_sum (p q : Int → Bool) : numS (fun n => p n || q n) + numS (fun n => p n && q n) = numS p + numS q := by
  have a := num_or (fun n => p n && !q n) q (fun n h => by simp at h; rw [h.2] at h; simp at h)
  have b := num_or (fun n => p n && !q n) (fun n => p n && q n) (fun n h => by
    simp at h; rw [h.2.2] at h; simp at h)
  have ea : numS (fun n => (p n && !q n) || q n) = numS (fun n => p n || q n) := num_ext fun n _ _ => by cases p n <;> cases q n <;> rfl
  have eb : numS (fun n => (p n && !q n) || (p n && q n)) = numS p := num_ext fun n _ _ => by cases p n <;> cases q n <;> rfl
  omega
theorem num_diff (p q : Int → Bool) : numS (fun n => p n && !q n) + numS (fun n => p n && q n) = numS p := by
  have b := num_or (fun n => p n && !q n) (fun n => p n && q n) (fun n h => by
    simp at h; rw [h.2.2] at h; simp at h)
  have eb : numS (fun n => (p n && !q n) || (p n && q n)) = numS p := num_ext fun n _ _ => by cases p n <;> cases q n <;> rfl
  omega
theorem wid_le (l : List S31) : 0 ≤ widS (normS l) ∧ widS (normS l) ≤ 16384 := by
  rw [wid_say]
  have := num_le (sayS l)
  generalize numS (sayS l) = n at *
  omega
theorem laws_num (a b : List S31) : widS (normS (normS (a ++ b))) + widS (normS (bothS a b)) = widS (normS a) + widS (normS b) ∧ widS (normS (minusS a b)) + widS (normS (bothS a b)) = widS (normS a) := by
  rw [wid_say, wid_say, wid_say, wid_say, wid_say]
  have eu : numS (sayS (normS (a ++ b))) = numS (fun n => sayS a n || sayS b n) := num_ext fun n _ _ => by rw [norm_say, sayS_app]
  have ex : numS (sayS (bothS a b)) = numS (fun n => sayS a n && sayS b n) := num_ext fun n _ _ => both_say a b n
  have em : numS (sayS (minusS a b)) = numS (fun n => sayS a n && !sayS b n) := num_ext fun n _ _ => minus_say a b n
  have s1 := num_sum (sayS a) (sayS b)
  have s2 := num_diff (sayS a) (sayS b)
  rw [← eu, ← ex] at s1
  rw [← em, ← ex] at s2
  clear eu ex em
  generalize numS (sayS a) = na at *
  generalize numS (sayS b) = nb at *
  generalize numS (sayS (normS (a ++ b))) = nu at *
  generalize numS (sayS (bothS a b)) = nx at *
  generalize numS (sayS (minusS a b)) = nm at *
  omega
theorem union_some (a b : List S31) (ha : a.length ≤ 1000000) (hb : b.length ≤ 1000000) : spans_Union.f a b = some (normS (a ++ b)) := by unfold spans_Union.f; rw [if_pos ⟨by omega, by omega⟩]
theorem both_some (a b : List S31) (ha : a.length ≤ 1000000) (hb : b.length ≤ 1000000) : spans_Both.f a b = some (bothS a b) := by unfold spans_Both.f; rw [if_pos ⟨by omega, by omega⟩]
theorem minus_some (a b : List S31) (ha : a.length ≤ 1000000) (hb : b.length ≤ 1000000) : spans_Minus.f a b = some (minusS a b) := by unfold spans_Minus.f; rw [if_pos ⟨by omega, by omega⟩]
theorem same_eq {a b : List S31} (h : a = b) (hl : a.length ≤ 10000000) : Ev (fun k => caravanref1_SameSpans.f k a b) true := by
  subst h; exact Ev.same (same_ev a a (by omega)) (decide_eq_true rfl)
end Go.Proofs.YtnlakdpfkgjdaaaDoor.Pure

/- What functions of the translation come to, and their calls' proofs; by a program of mine over the kit's print, with contracts given by hand beside. Conditions: where a plain function tells none, nothing is said. -/
namespace Go.Proofs.YtnlakdpfkgjdaaaDoor.G
open Go.RowKit Go.Proofs.YtnlakdpfkgjdaaaDoorW.PrintWords Go.Proofs.YtnlakdpfkgjdaaaDoorW.PrintLast Go.Proofs.YtnlakdpfkgjdaaaDoorW.PrintMore
attribute [local go_sem] max2_int min2_int max_two min_two max_three min_three max_four min_four   -- for this text's walks alone
set_option linter.unusedVariables false
set_option linter.unusedSimpArgs false

/-! ### caravanlaw2_SpansMix: function 7 -/
def caravanlaw2_SpansMix.j0 : Nat → List (S31) → List (S31) → Bool → Option (Bool)
 | 0, _, _, _ => none
 | k + 1, x0, x1, x12 => if x12 = true then ((caravanlaw2_awake.f k).bind fun t348 => (some t348)) else ((spans_Union.f x0 x1).bind fun t349 => ((caravanref1_Mix.f k 0 x0 x1).bind fun t352 => ((caravanref1_SameSpans.f k t349 t352).bind fun t355 => (if t355 = true then ((spans_Minus.f x0 x1).bind fun t356 => ((caravanref1_Mix.f k 1 x0 x1).bind fun t359 => ((caravanref1_SameSpans.f k t356 t359).bind fun t362 => (if t362 = true then ((spans_Both.f x0 x1).bind fun t363 => ((caravanref1_Mix.f k 2 x0 x1).bind fun t366 => ((caravanref1_SameSpans.f k t363 t366).bind fun t369 => (if t369 = true then ((caravanlaw2_awake.f k).bind fun t370 => (some t370)) else (some false))))) else (some false))))) else (some false)))))
def caravanlaw2_SpansMix.f (k : Nat) (l0 : List (S31)) (l1 : List (S31)) : Option (Bool) := if (l0.length : Int) > 40 then (caravanlaw2_SpansMix.j0 k l0 l1 true) else (caravanlaw2_SpansMix.j0 k l0 l1 (decide ((l1.length : Int) > 40)))
theorem caravanlaw2_SpansMix.mono_l : ∀ k, (∀ y0 y1 y2, LeO (caravanlaw2_SpansMix.j0 k y0 y1 y2) (caravanlaw2_SpansMix.j0 (k + 1) y0 y1 y2))
 | 0 => fun _ _ _ r h => by simp [caravanlaw2_SpansMix.j0] at h
 | k + 1 => by
  have ih0 := caravanlaw2_SpansMix.mono_l k
  ·intro y0 y1 y2
   unfold caravanlaw2_SpansMix.j0
   repeat' first
   | (with_reducible exact ih0 _ _ _)
   | (with_reducible exact caravanlaw2_awake.mono _)
   | (with_reducible exact caravanref1_Mix.mono _ _ _ _)
   | (with_reducible exact caravanref1_SameSpans.mono _ _ _)
   | (with_reducible exact LeO.refl _)
   | (with_reducible exact LeO.none _)
   | (with_reducible refine LeO.ite ?_ ?_)
   | (with_reducible refine LeO.bind ?_ (fun _ => ?_))
   | exact ih0 _ _ _
   | exact caravanlaw2_awake.mono _
   | exact caravanref1_Mix.mono _ _ _ _
   | exact caravanref1_SameSpans.mono _ _ _
   | exact LeO.none _
   | refine LeO.ite ?_ ?_
   | refine LeO.bind ?_ (fun _ => ?_)
theorem caravanlaw2_SpansMix.mono : ∀ a0 a1 k, LeO (caravanlaw2_SpansMix.f k a0 a1) (caravanlaw2_SpansMix.f (k + 1) a0 a1) := by
 intro a0 a1 k
 have ih0 := caravanlaw2_SpansMix.mono_l k
 unfold caravanlaw2_SpansMix.f
 repeat' first
  | (with_reducible exact ih0 _ _ _)
  | (with_reducible exact caravanlaw2_awake.mono _)
  | (with_reducible exact caravanref1_Mix.mono _ _ _ _)
  | (with_reducible exact caravanref1_SameSpans.mono _ _ _)
  | (with_reducible exact LeO.refl _)
  | (with_reducible exact LeO.none _)
  | (with_reducible refine LeO.ite ?_ ?_)
  | (with_reducible refine LeO.bind ?_ (fun _ => ?_))
  | exact ih0 _ _ _
  | exact caravanlaw2_awake.mono _
  | exact caravanref1_Mix.mono _ _ _ _
  | exact caravanref1_SameSpans.mono _ _ _
  | exact LeO.none _
  | refine LeO.ite ?_ ?_
  | refine LeO.bind ?_ (fun _ => ?_)
set_option maxHeartbeats 8000000 in
set_option maxRecDepth 100000 in
theorem caravanlaw2_SpansMix.calls (k : Nat) (A0 : Option Addr) (c0 : Nat) (l0 : List (S31)) (A1 : Option Addr) (c1 : Nat) (l1 : List (S31)) (r : Bool) (w : World) (hr0 : Kd.C k31 w A0 l0.length l0) (hc0 : l0.length ≤ c0) (hr1 : Kd.C k31 w A1 l1.length l1) (hc1 : l1.length ≤ c1) (h : caravanlaw2_SpansMix.f k l0 l1 = some r) (hrt_ : r = true) (hWd_ : Wd w) :
 Calls Tryd.prog 7 #[.slice A0 l0.length c0, .slice A1 l1.length c1] w fun e w' => e = .returned (.bool r) ∧ Below w.heap.size w w' := by
 have HR0 := Aside0.mk hr0
 have HC0 := Aside0.mk hc0
 clear hr0 hc0
 have HR1 := Aside0.mk hr1
 have HC1 := Aside0.mk hc1
 clear hr1 hc1
 have HB := Aside0.mk (Below.refl w.heap.size w)
 have H : (if (l0.length : Int) > 40 then (caravanlaw2_SpansMix.j0 k l0 l1 true) else (caravanlaw2_SpansMix.j0 k l0 l1 (decide ((l1.length : Int) > 40)))) = some r := h
 clear h
 have HC3 := Aside0.mk H
 clear H
 go_enter Tryd.func7, Tryd.ntmps7
 go_upto_region 1 with (fail)
 go_cut [12] (fun v12 wc => ∃ (kq : Nat) (x12_2 : Bool), v12 = .bool x12_2 ∧ Aside0 (caravanlaw2_SpansMix.j0 kq l0 l1 x12_2 = some r) ∧ Aside0 (kq ≤ k) ∧ Aside0 (Below w.heap.size w wc))
 case first =>
  have H := HC3.out
  clear HC3
  by_cases c4 : (l0.length : Int) > 40
  ·rw [if_pos c4] at H
   have c4b0 : decide (40 < (l0.length : Int)) = true := decide_eq_true c4
   have c4b1 : decide (40 < l0.length) = true := decide_eq_true (by omega)
   clear c4
   (first | rw [c4b0] | (simp only [i64_w, i32_w]; rw [c4b0]) | skip)
   have H' := Aside0.mk H
   clear H
   go_wp2
   go_meet
   case rel => exact ⟨_, (true), (by first | rfl | (simp; done) | (simp [*]; done)), H', ⟨by first | omega | exact Nat.le_refl _⟩, ⟨(qdb35_ HB.out)⟩⟩
  ·rw [if_neg c4] at H
   have c4b0 : decide (40 < (l0.length : Int)) = false := decide_eq_false c4
   have c4b1 : decide (40 < l0.length) = false := decide_eq_false (by omega)
   clear c4
   (first | rw [c4b0] | (simp only [i64_w, i32_w]; rw [c4b0]) | skip)
   have H' := Aside0.mk H
   clear H
   go_wp2
   go_meet
   case rel => exact ⟨_, (decide ((l1.length : Int) > 40)), (by first | rfl | (simp; done) | (simp [*]; done)), H', ⟨by first | omega | exact Nat.le_refl _⟩, ⟨(qdb35_ HB.out)⟩⟩
 case rest =>
  clear HC3
  try clear c1
  try clear p2
  try clear c4
  try clear c4b0
  try clear c4b1
  obtain ⟨kq, x12_2, rfl, HA, HJ2, HB⟩ := hcut
  cases kq with
  | zero => exact absurd HA.out (by simp [caravanlaw2_SpansMix.j0])
  | succ kj2 =>
   have H := HA.out
   clear HA
   simp only [caravanlaw2_SpansMix.j0] at H
   by_cases c5 : x12_2 = true
   ·subst c5
    have H1 : ((caravanlaw2_awake.f kj2).bind fun t348 => (some t348)) = some r := by rw [if_pos rfl] at H; exact H
    clear H
    have H := H1
    clear H1
    replace H := Option.bind_eq_some_iff.mp H
    obtain ⟨t348, A60, H⟩ := H
    replace H : (some t348) = some r := H
    have A6 := Aside0.mk A60
    clear A60
    obtain rfl := Option.some.inj H
    go_wp2_with (first | ((with_reducible refine gate_callee (f := 9) rfl ?_); refine goesL_ (some 13) rfl rfl Tryd.func9 (by kernel_rfl) rfl #[] rfl qM_ ?_; (with_reducible refine (caravanlaw2_awake.calls kj2  t348 _ A6.out (Wd.of hWd_ (qdb35_ HB.out))).mono ?_); rintro e w7 ⟨rfl, hb⟩; refine ⟨_, rfl, ?_⟩; have n0_ := Aside0.mk (below_step (qdb35_ HB.out) hb); clear HB; have HB := n0_; clear n0_; (try clear hb); (try clear hb2); (try clear hk); (try clear hi)))
    go_ret
    exact ⟨by first | rfl | (simp [errW_none, errW_some] <;> rfl) | (simp [*, errW_none, errW_some] <;> rfl), (qdb35_ HB.out)⟩
   ·replace c5 := Bool.eq_false_iff.mpr c5
    subst c5
    have H1 : ((spans_Union.f l0 l1).bind fun t349 => ((caravanref1_Mix.f kj2 0 l0 l1).bind fun t352 => ((caravanref1_SameSpans.f kj2 t349 t352).bind fun t355 => (if t355 = true then ((spans_Minus.f l0 l1).bind fun t356 => ((caravanref1_Mix.f kj2 1 l0 l1).bind fun t359 => ((caravanref1_SameSpans.f kj2 t356 t359).bind fun t362 => (if t362 = true then ((spans_Both.f l0 l1).bind fun t363 => ((caravanref1_Mix.f kj2 2 l0 l1).bind fun t366 => ((caravanref1_SameSpans.f kj2 t363 t366).bind fun t369 => (if t369 = true then ((caravanlaw2_awake.f kj2).bind fun t370 => (some t370)) else (some false))))) else (some false))))) else (some false))))) = some r := by rw [if_neg (show ¬ (false = true) by decide)] at H; exact H
    clear H
    have H := H1
    clear H1
    replace H := Option.bind_eq_some_iff.mp H
    obtain ⟨t349, A80, H⟩ := H
    replace H : ((caravanref1_Mix.f kj2 0 l0 l1).bind fun t352 => ((caravanref1_SameSpans.f kj2 t349 t352).bind fun t355 => (if t355 = true then ((spans_Minus.f l0 l1).bind fun t356 => ((caravanref1_Mix.f kj2 1 l0 l1).bind fun t359 => ((caravanref1_SameSpans.f kj2 t356 t359).bind fun t362 => (if t362 = true then ((spans_Both.f l0 l1).bind fun t363 => ((caravanref1_Mix.f kj2 2 l0 l1).bind fun t366 => ((caravanref1_SameSpans.f kj2 t363 t366).bind fun t369 => (if t369 = true then ((caravanlaw2_awake.f kj2).bind fun t370 => (some t370)) else (some false))))) else (some false))))) else (some false)))) = some r := H
    have A8 := Aside0.mk A80
    clear A80
    replace H := Option.bind_eq_some_iff.mp H
    obtain ⟨t352, A90, H⟩ := H
    replace H : ((caravanref1_SameSpans.f kj2 t349 t352).bind fun t355 => (if t355 = true then ((spans_Minus.f l0 l1).bind fun t356 => ((caravanref1_Mix.f kj2 1 l0 l1).bind fun t359 => ((caravanref1_SameSpans.f kj2 t356 t359).bind fun t362 => (if t362 = true then ((spans_Both.f l0 l1).bind fun t363 => ((caravanref1_Mix.f kj2 2 l0 l1).bind fun t366 => ((caravanref1_SameSpans.f kj2 t363 t366).bind fun t369 => (if t369 = true then ((caravanlaw2_awake.f kj2).bind fun t370 => (some t370)) else (some false))))) else (some false))))) else (some false))) = some r := H
    have A9 := Aside0.mk A90
    clear A90
    replace H := Option.bind_eq_some_iff.mp H
    obtain ⟨t355, A100, H⟩ := H
    replace H : (if t355 = true then ((spans_Minus.f l0 l1).bind fun t356 => ((caravanref1_Mix.f kj2 1 l0 l1).bind fun t359 => ((caravanref1_SameSpans.f kj2 t356 t359).bind fun t362 => (if t362 = true then ((spans_Both.f l0 l1).bind fun t363 => ((caravanref1_Mix.f kj2 2 l0 l1).bind fun t366 => ((caravanref1_SameSpans.f kj2 t363 t366).bind fun t369 => (if t369 = true then ((caravanlaw2_awake.f kj2).bind fun t370 => (some t370)) else (some false))))) else (some false))))) else (some false)) = some r := H
    have A10 := Aside0.mk A100
    clear A100
    by_cases c11 : t355 = true
    ·subst c11
     have H1 : ((spans_Minus.f l0 l1).bind fun t356 => ((caravanref1_Mix.f kj2 1 l0 l1).bind fun t359 => ((caravanref1_SameSpans.f kj2 t356 t359).bind fun t362 => (if t362 = true then ((spans_Both.f l0 l1).bind fun t363 => ((caravanref1_Mix.f kj2 2 l0 l1).bind fun t366 => ((caravanref1_SameSpans.f kj2 t363 t366).bind fun t369 => (if t369 = true then ((caravanlaw2_awake.f kj2).bind fun t370 => (some t370)) else (some false))))) else (some false))))) = some r := by rw [if_pos rfl] at H; exact H
     clear H
     have H := H1
     clear H1
     replace H := Option.bind_eq_some_iff.mp H
     obtain ⟨t356, A120, H⟩ := H
     replace H : ((caravanref1_Mix.f kj2 1 l0 l1).bind fun t359 => ((caravanref1_SameSpans.f kj2 t356 t359).bind fun t362 => (if t362 = true then ((spans_Both.f l0 l1).bind fun t363 => ((caravanref1_Mix.f kj2 2 l0 l1).bind fun t366 => ((caravanref1_SameSpans.f kj2 t363 t366).bind fun t369 => (if t369 = true then ((caravanlaw2_awake.f kj2).bind fun t370 => (some t370)) else (some false))))) else (some false)))) = some r := H
     have A12 := Aside0.mk A120
     clear A120
     replace H := Option.bind_eq_some_iff.mp H
     obtain ⟨t359, A130, H⟩ := H
     replace H : ((caravanref1_SameSpans.f kj2 t356 t359).bind fun t362 => (if t362 = true then ((spans_Both.f l0 l1).bind fun t363 => ((caravanref1_Mix.f kj2 2 l0 l1).bind fun t366 => ((caravanref1_SameSpans.f kj2 t363 t366).bind fun t369 => (if t369 = true then ((caravanlaw2_awake.f kj2).bind fun t370 => (some t370)) else (some false))))) else (some false))) = some r := H
     have A13 := Aside0.mk A130
     clear A130
     replace H := Option.bind_eq_some_iff.mp H
     obtain ⟨t362, A140, H⟩ := H
     replace H : (if t362 = true then ((spans_Both.f l0 l1).bind fun t363 => ((caravanref1_Mix.f kj2 2 l0 l1).bind fun t366 => ((caravanref1_SameSpans.f kj2 t363 t366).bind fun t369 => (if t369 = true then ((caravanlaw2_awake.f kj2).bind fun t370 => (some t370)) else (some false))))) else (some false)) = some r := H
     have A14 := Aside0.mk A140
     clear A140
     by_cases c15 : t362 = true
     ·subst c15
      have H1 : ((spans_Both.f l0 l1).bind fun t363 => ((caravanref1_Mix.f kj2 2 l0 l1).bind fun t366 => ((caravanref1_SameSpans.f kj2 t363 t366).bind fun t369 => (if t369 = true then ((caravanlaw2_awake.f kj2).bind fun t370 => (some t370)) else (some false))))) = some r := by rw [if_pos rfl] at H; exact H
      clear H
      have H := H1
      clear H1
      replace H := Option.bind_eq_some_iff.mp H
      obtain ⟨t363, A160, H⟩ := H
      replace H : ((caravanref1_Mix.f kj2 2 l0 l1).bind fun t366 => ((caravanref1_SameSpans.f kj2 t363 t366).bind fun t369 => (if t369 = true then ((caravanlaw2_awake.f kj2).bind fun t370 => (some t370)) else (some false)))) = some r := H
      have A16 := Aside0.mk A160
      clear A160
      replace H := Option.bind_eq_some_iff.mp H
      obtain ⟨t366, A170, H⟩ := H
      replace H : ((caravanref1_SameSpans.f kj2 t363 t366).bind fun t369 => (if t369 = true then ((caravanlaw2_awake.f kj2).bind fun t370 => (some t370)) else (some false))) = some r := H
      have A17 := Aside0.mk A170
      clear A170
      replace H := Option.bind_eq_some_iff.mp H
      obtain ⟨t369, A180, H⟩ := H
      replace H : (if t369 = true then ((caravanlaw2_awake.f kj2).bind fun t370 => (some t370)) else (some false)) = some r := H
      have A18 := Aside0.mk A180
      clear A180
      by_cases c19 : t369 = true
      ·subst c19
       have H1 : ((caravanlaw2_awake.f kj2).bind fun t370 => (some t370)) = some r := by rw [if_pos rfl] at H; exact H
       clear H
       have H := H1
       clear H1
       replace H := Option.bind_eq_some_iff.mp H
       obtain ⟨t370, A200, H⟩ := H
       replace H : (some t370) = some r := H
       have A20 := Aside0.mk A200
       clear A200
       obtain rfl := Option.some.inj H
       go_wp2_with (first | ((with_reducible refine gate_callee (f := 24) rfl ?_); refine goesL_ (some 16) rfl rfl Tryd.func24 (by kernel_rfl) rfl #[.slice A0 l0.length c0, .slice A1 l1.length c1] rfl qM_ ?_; (with_reducible refine (spans_Union.calls _ _ l0 _ _ l1 t349 _ ?side1 ?side2 ?side3 ?side4 A8.out).mono ?_); (case side1 => exact qC_ ((Kd.C_below HR0.out HB.out))); (case side2 => exact HC0.out); (case side3 => exact qC_ ((Kd.C_below HR1.out HB.out))); (case side4 => exact HC1.out); rintro e w21 ⟨v350, rfl, ho0, hb⟩; refine ⟨_, rfl, ?_⟩; have n0_ := Aside0.mk (Kd.R_lower ho0 (below_size (qdb35_ HB.out))); have n1_ := Aside0.mk (below_step (qdb35_ HB.out) hb); clear HB; have HO351 := n0_; have HB := n1_; clear n0_ n1_; (try clear hb); (try clear hb2); (try clear hk); (try clear hi); (try clear ho0)) | ((with_reducible refine gate_callee (f := 25) rfl ?_); refine goesL_ (some 19) rfl rfl Tryd.func25 (by kernel_rfl) rfl #[.int .i64 0, .slice A0 l0.length c0, .slice A1 l1.length c1] rfl qM_ ?_; (with_reducible refine (caravanref1_Mix.calls kj2 0 _ _ l0 _ _ l1 t352 _ ?side1 ?side2 ?side3 ?side4 A9.out).mono ?_); (case side1 => exact qC_ ((Kd.C_below HR0.out HB.out))); (case side2 => exact HC0.out); (case side3 => exact qC_ ((Kd.C_below HR1.out HB.out))); (case side4 => exact HC1.out); rintro e w22 ⟨v353, rfl, ho0, hb⟩; refine ⟨_, rfl, ?_⟩; have n0_ := Aside0.mk (Kd.R_elder' (q8524_ HO351.out) (Kd.R_base ho0) hb); have n1_ := Aside0.mk (Kd.R_lower (Kd.R_new' ho0 (Kd.R_lt (q8524_ HO351.out))) (below_size (qdb35_ HB.out))); have n2_ := Aside0.mk (below_step (qdb35_ HB.out) hb); clear HO351; clear HB; have HO351 := n0_; have HO354 := n1_; have HB := n2_; clear n0_ n1_ n2_; (try clear hb); (try clear hb2); (try clear hk); (try clear hi); (try clear ho0); obtain ⟨Ao23, co23, eo23⟩ := Kd.R_slice HO351.out; subst eo23; obtain ⟨Ao24, co24, eo24⟩ := Kd.R_slice HO354.out; subst eo24) | ((with_reducible refine gate_callee (f := 12) rfl ?_); refine goesL_ (some 20) rfl rfl Tryd.func12 (by kernel_rfl) rfl #[.slice Ao23 t349.length co23, .slice Ao24 t352.length co24] rfl qM_ ?_; (with_reducible refine (caravanref1_SameSpans.calls kj2 _ _ t349 _ _ t352 true _ ?side1 ?side2 ?side3 ?side4 A10.out).mono ?_); (case side1 => exact qC_ ((Kd.R_reads' HO351.out).2.2)); (case side2 => exact (Kd.R_reads' HO351.out).2.1); (case side3 => exact qC_ ((Kd.R_reads' HO354.out).2.2)); (case side4 => exact (Kd.R_reads' HO354.out).2.1); rintro e w' ⟨rfl, ⟨nd, rfl⟩⟩; refine ⟨_, rfl, ?_⟩) | (go_at_call 26; (with_reducible refine (spans_Minus.calls _ _ l0 _ _ l1 t356 _ ?side1 ?side2 ?side3 ?side4 A12.out).mono ?_); (case side1 => repeat (first | exact (Kd.C_below HR0.out (qdb35_ HB.out)) | (with_reducible refine Kd.C_alloc ?_ _) | (with_reducible refine Kd.C_drewN ?_ _) | (with_reducible refine Kd.C_drew ?_))); (case side2 => exact HC0.out); (case side3 => repeat (first | exact (Kd.C_below HR1.out (qdb35_ HB.out)) | (with_reducible refine Kd.C_alloc ?_ _) | (with_reducible refine Kd.C_drewN ?_ _) | (with_reducible refine Kd.C_drew ?_))); (case side4 => exact HC1.out); rintro e w25 ⟨v357, rfl, ho0, hb⟩; have n0_ := Aside0.mk (Kd.R_elder' (q8524_ HO351.out) (Kd.R_base ho0) hb); have n1_ := Aside0.mk (Kd.R_elder' (q8524_ HO354.out) (Kd.R_base ho0) hb); have n2_ := Aside0.mk (Kd.R_lower (Kd.R_new' (Kd.R_new' ho0 (Kd.R_lt (q8524_ HO351.out))) (Kd.R_lt (q8524_ HO354.out))) (below_size (qdb35_ HB.out))); have n3_ := Aside0.mk (below_step (qdb35_ HB.out) hb); clear HO351; clear HO354; clear HB; have HO351 := n0_; have HO354 := n1_; have HO358 := n2_; have HB := n3_; clear n0_ n1_ n2_ n3_; (try clear hb); (try clear hb2); (try clear hk); (try clear hi); (try clear ho0)) | (go_at_call 25; (with_reducible refine (caravanref1_Mix.calls kj2 1 _ _ l0 _ _ l1 t359 _ ?side1 ?side2 ?side3 ?side4 A13.out).mono ?_); (case side1 => exact qC_ ((Kd.C_below HR0.out HB.out))); (case side2 => exact HC0.out); (case side3 => exact qC_ ((Kd.C_below HR1.out HB.out))); (case side4 => exact HC1.out); rintro e w26 ⟨v360, rfl, ho0, hb⟩; have n0_ := Aside0.mk (Kd.R_elder' (q8524_ HO351.out) (Kd.R_base ho0) hb); have n1_ := Aside0.mk (Kd.R_elder' (q8524_ HO354.out) (Kd.R_base ho0) hb); have n2_ := Aside0.mk (Kd.R_elder' (q8524_ HO358.out) (Kd.R_base ho0) hb); have n3_ := Aside0.mk (Kd.R_lower (Kd.R_new' (Kd.R_new' (Kd.R_new' ho0 (Kd.R_lt (q8524_ HO351.out))) (Kd.R_lt (q8524_ HO354.out))) (Kd.R_lt (q8524_ HO358.out))) (below_size (qdb35_ HB.out))); have n4_ := Aside0.mk (below_step (qdb35_ HB.out) hb); clear HO351; clear HO354; clear HO358; clear HB; have HO351 := n0_; have HO354 := n1_; have HO358 := n2_; have HO361 := n3_; have HB := n4_; clear n0_ n1_ n2_ n3_ n4_; (try clear hb); (try clear hb2); (try clear hk); (try clear hi); (try clear ho0); obtain ⟨Ao27, co27, eo27⟩ := Kd.R_slice HO358.out; subst eo27; obtain ⟨Ao28, co28, eo28⟩ := Kd.R_slice HO361.out; subst eo28) | (go_at_call 12; (with_reducible refine (caravanref1_SameSpans.calls kj2 _ _ t356 _ _ t359 true _ ?side1 ?side2 ?side3 ?side4 A14.out).mono ?_); (case side1 => exact qC_ ((Kd.R_reads' HO358.out).2.2)); (case side2 => exact (Kd.R_reads' HO358.out).2.1); (case side3 => exact qC_ ((Kd.R_reads' HO361.out).2.2)); (case side4 => exact (Kd.R_reads' HO361.out).2.1); rintro e w' ⟨rfl, ⟨nd, rfl⟩⟩) | (go_at_call 27; (with_reducible refine (spans_Both.calls _ _ l0 _ _ l1 t363 _ ?side1 ?side2 ?side3 ?side4 A16.out).mono ?_); (case side1 => repeat (first | exact (Kd.C_below HR0.out (qdb35_ HB.out)) | (with_reducible refine Kd.C_alloc ?_ _) | (with_reducible refine Kd.C_drewN ?_ _) | (with_reducible refine Kd.C_drew ?_))); (case side2 => exact HC0.out); (case side3 => repeat (first | exact (Kd.C_below HR1.out (qdb35_ HB.out)) | (with_reducible refine Kd.C_alloc ?_ _) | (with_reducible refine Kd.C_drewN ?_ _) | (with_reducible refine Kd.C_drew ?_))); (case side4 => exact HC1.out); rintro e w29 ⟨v364, rfl, ho0, hb⟩; have n0_ := Aside0.mk (Kd.R_elder' (q8524_ HO351.out) (Kd.R_base ho0) hb); have n1_ := Aside0.mk (Kd.R_elder' (q8524_ HO354.out) (Kd.R_base ho0) hb); have n2_ := Aside0.mk (Kd.R_elder' (q8524_ HO358.out) (Kd.R_base ho0) hb); have n3_ := Aside0.mk (Kd.R_elder' (q8524_ HO361.out) (Kd.R_base ho0) hb); have n4_ := Aside0.mk (Kd.R_lower (Kd.R_new' (Kd.R_new' (Kd.R_new' (Kd.R_new' ho0 (Kd.R_lt (q8524_ HO351.out))) (Kd.R_lt (q8524_ HO354.out))) (Kd.R_lt (q8524_ HO358.out))) (Kd.R_lt (q8524_ HO361.out))) (below_size (qdb35_ HB.out))); have n5_ := Aside0.mk (below_step (qdb35_ HB.out) hb); clear HO351; clear HO354; clear HO358; clear HO361; clear HB; have HO351 := n0_; have HO354 := n1_; have HO358 := n2_; have HO361 := n3_; have HO365 := n4_; have HB := n5_; clear n0_ n1_ n2_ n3_ n4_ n5_; (try clear hb); (try clear hb2); (try clear hk); (try clear hi); (try clear ho0)) | (go_at_call 25; (with_reducible refine (caravanref1_Mix.calls kj2 2 _ _ l0 _ _ l1 t366 _ ?side1 ?side2 ?side3 ?side4 A17.out).mono ?_); (case side1 => exact qC_ ((Kd.C_below HR0.out HB.out))); (case side2 => exact HC0.out); (case side3 => exact qC_ ((Kd.C_below HR1.out HB.out))); (case side4 => exact HC1.out); rintro e w30 ⟨v367, rfl, ho0, hb⟩; have n0_ := Aside0.mk (Kd.R_elder' (q8524_ HO351.out) (Kd.R_base ho0) hb); have n1_ := Aside0.mk (Kd.R_elder' (q8524_ HO354.out) (Kd.R_base ho0) hb); have n2_ := Aside0.mk (Kd.R_elder' (q8524_ HO358.out) (Kd.R_base ho0) hb); have n3_ := Aside0.mk (Kd.R_elder' (q8524_ HO361.out) (Kd.R_base ho0) hb); have n4_ := Aside0.mk (Kd.R_elder' (q8524_ HO365.out) (Kd.R_base ho0) hb); have n5_ := Aside0.mk (Kd.R_lower (Kd.R_new' (Kd.R_new' (Kd.R_new' (Kd.R_new' (Kd.R_new' ho0 (Kd.R_lt (q8524_ HO351.out))) (Kd.R_lt (q8524_ HO354.out))) (Kd.R_lt (q8524_ HO358.out))) (Kd.R_lt (q8524_ HO361.out))) (Kd.R_lt (q8524_ HO365.out))) (below_size (qdb35_ HB.out))); have n6_ := Aside0.mk (below_step (qdb35_ HB.out) hb); clear HO351; clear HO354; clear HO358; clear HO361; clear HO365; clear HB; have HO351 := n0_; have HO354 := n1_; have HO358 := n2_; have HO361 := n3_; have HO365 := n4_; have HO368 := n5_; have HB := n6_; clear n0_ n1_ n2_ n3_ n4_ n5_ n6_; (try clear hb); (try clear hb2); (try clear hk); (try clear hi); (try clear ho0); obtain ⟨Ao31, co31, eo31⟩ := Kd.R_slice HO365.out; subst eo31; obtain ⟨Ao32, co32, eo32⟩ := Kd.R_slice HO368.out; subst eo32) | (go_at_call 12; (with_reducible refine (caravanref1_SameSpans.calls kj2 _ _ t363 _ _ t366 true _ ?side1 ?side2 ?side3 ?side4 A18.out).mono ?_); (case side1 => exact qC_ ((Kd.R_reads' HO365.out).2.2)); (case side2 => exact (Kd.R_reads' HO365.out).2.1); (case side3 => exact qC_ ((Kd.R_reads' HO368.out).2.2)); (case side4 => exact (Kd.R_reads' HO368.out).2.1); rintro e w' ⟨rfl, ⟨nd, rfl⟩⟩) | (go_at_call 9; (with_reducible refine (caravanlaw2_awake.calls kj2  t370 _ A20.out (Wd.of hWd_ (qdb35_ HB.out))).mono ?_); rintro e w33 ⟨rfl, hb⟩; have n0_ := Aside0.mk (Kd.R_below (q8524_ HO351.out) hb); have n1_ := Aside0.mk (Kd.R_below (q8524_ HO354.out) hb); have n2_ := Aside0.mk (Kd.R_below (q8524_ HO358.out) hb); have n3_ := Aside0.mk (Kd.R_below (q8524_ HO361.out) hb); have n4_ := Aside0.mk (Kd.R_below (q8524_ HO365.out) hb); have n5_ := Aside0.mk (Kd.R_below (q8524_ HO368.out) hb); have n6_ := Aside0.mk (below_step (qdb35_ HB.out) hb); clear HO351; clear HO354; clear HO358; clear HO361; clear HO365; clear HO368; clear HB; have HO351 := n0_; have HO354 := n1_; have HO358 := n2_; have HO361 := n3_; have HO365 := n4_; have HO368 := n5_; have HB := n6_; clear n0_ n1_ n2_ n3_ n4_ n5_ n6_; (try clear hb); (try clear hb2); (try clear hk); (try clear hi)))
       go_ret
       exact ⟨by first | rfl | (simp [errW_none, errW_some] <;> rfl) | (simp [*, errW_none, errW_some] <;> rfl), (qdb35_ HB.out)⟩
      ·replace c19 := Bool.eq_false_iff.mpr c19
       subst c19
       have H1 : (some false) = some r := by rw [if_neg (show ¬ (false = true) by decide)] at H; exact H
       clear H
       have H := H1
       clear H1
       subst hrt_; exact absurd H (by simp)
     ·replace c15 := Bool.eq_false_iff.mpr c15
      subst c15
      have H1 : (some false) = some r := by rw [if_neg (show ¬ (false = true) by decide)] at H; exact H
      clear H
      have H := H1
      clear H1
      subst hrt_; exact absurd H (by simp)
    ·replace c11 := Bool.eq_false_iff.mpr c11
     subst c11
     have H1 : (some false) = some r := by rw [if_neg (show ¬ (false = true) by decide)] at H; exact H
     clear H
     have H := H1
     clear H1
     subst hrt_; exact absurd H (by simp)

end Go.Proofs.YtnlakdpfkgjdaaaDoor.G

/- For any two lists of spans that are no longer than the statement speaks of, what they say together, the first without the second, both, is the reference's. Condition: ends are 64-bit numbers. -/
namespace Go.Proofs.YtnlakdpfkgjdaaaDoor.Pure
open Go.RowKit Go.Pk Go.Cav Go.Proofs.YtnlakdpfkgjdaaaDoor.G Go.Proofs.YtnlakdpfkgjdaaaDoorW.PrintWords Go.Proofs.YtnlakdpfkgjdaaaDoorW.PrintLast Go.Proofs.YtnlakdpfkgjdaaaDoorW.PrintMore
theorem mixlaw_ev (a b : List S31) (hw : ∀ s ∈ a, -9223372036854775808 ≤ s.f1) (hv : ∀ s ∈ b, -9223372036854775808 ≤ s.f1) : Ev (fun k => caravanlaw2_SpansMix.f k a b) true := by
  have yes : Ev (fun k => caravanlaw2_SpansMix.j0 k a b true) true := Ev.next (fun k => by rw [caravanlaw2_SpansMix.j0, if_pos rfl]) awake_some
  by_cases c : (a.length : Int) > 40
  · exact Ev.fn (fun k => by unfold caravanlaw2_SpansMix.f; rw [if_pos c]) yes
  by_cases d : (b.length : Int) > 40
  · exact Ev.fn (fun k => by unfold caravanlaw2_SpansMix.f; rw [if_neg c, decide_eq_true d]) yes
  refine Ev.fn (fun k => by unfold caravanlaw2_SpansMix.f; rw [if_neg c, decide_eq_false d]) ?_
  have ha : a.length ≤ 40 := by omega
  have hb : b.length ≤ 40 := by omega
  have hab : ∀ s ∈ a ++ b, -9223372036854775808 ≤ s.f1 := fun s hs => (List.mem_append.1 hs).elim (hw s) (hv s)
  have e0 : mixR 0 a b = normS (a ++ b) := mixR_or (by decide) (by decide) a b
  have m0 := Ev.same (mix_ev 0 a b (by omega) (by omega) hab) e0
  have m1 := Ev.same (mix_ev 1 a b (by omega) (by omega) hab) (mix1 a b)
  have m2 := Ev.same (mix_ev 2 a b (by omega) (by omega) hab) (mix2 a b)
  have hl0 := normS_len (a ++ b)
  rw [List.length_append] at hl0
  have hl1 := minus_len a b
  have hl2 := both_len a b
  have pu : Ev (fun _ => spans_Union.f a b) _ := Ev.const (union_some a b (by omega) (by omega))
  have pm : Ev (fun _ => spans_Minus.f a b) _ := Ev.const (minus_some a b (by omega) (by omega))
  have pb : Ev (fun _ => spans_Both.f a b) _ := Ev.const (both_some a b (by omega) (by omega))
  refine Ev.next (fun k => by rw [caravanlaw2_SpansMix.j0, if_neg (by decide)]) ?_
  refine Ev.seq pu (Ev.seq m0 (Ev.seq (same_eq rfl (by omega)) (if_true_ev rfl ?_)))
  refine Ev.seq pm (Ev.seq m1 (Ev.seq (same_eq rfl (by omega)) (if_true_ev rfl ?_)))
  exact Ev.seq pb (Ev.seq m2 (Ev.seq (same_eq rfl (by omega)) (if_true_ev rfl awake_some)))
end Go.Proofs.YtnlakdpfkgjdaaaDoor.Pure

/- The walk of SpansMix: it answers true. Condition: strconv's variables are as they are laid. -/
namespace Go.Proofs.YtnlakdpfkgjdaaaDoor
open Go.RowKit Go.Cav Go.Proofs.YtnlakdpfkgjdaaaDoor.G Go.Proofs.YtnlakdpfkgjdaaaDoorW.PrintWords
theorem spansMix_walk {W : World} (hWd_ : Wd W) (v0 : Value) (l0 : List S31) (h0 : rSlice 2 16 rSp W [v0] l0) (v1 : Value) (l1 : List S31) (h1 : rSlice 2 16 rSp W [v1] l1) :
    Calls Tryd.prog 7 #[v0, v1] W fun e w' => e = .returned (.bool true) ∧ Below W.heap.size W w' := by
  obtain ⟨⟨A, c, rfl, hc, hC⟩, hw⟩ := spans_C h0
  obtain ⟨⟨A1, c1, rfl, hc1, hC1⟩, hv⟩ := spans_C h1
  obtain ⟨k, hk⟩ := Ev.rounds (Pure.mixlaw_ev l0 l1 hw hv)
  exact caravanlaw2_SpansMix.calls k A c l0 A1 c1 l1 true W hC hc hC1 hc1 hk rfl hWd_
end Go.Proofs.YtnlakdpfkgjdaaaDoor
