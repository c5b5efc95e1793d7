/- Texts of mine, packed in the order in which they build: GText, PMy, Cc, Ga, CavTail, Gp, Sq, CavF, Re, CavU, Gc, GBoth, PMx, G3, PMk, PMs, GRead. Conditions: where a theorem asks for any, it names them. -/
import Derived.Test.YtnlakdpfkgjdaaaDoorRows
import Derived.Test.YtnlakdpfkgjdaaaDoorProg
import Derived.WalkKit
import Derived.WalkSpells
import Derived.WalkLawsBesides
import Derived.WalkSmall
import Derived.OwnWalkIn
import Derived.TacticsInMore
import Derived.Laws.AppendOwnNone
import Derived.Maps.AppendAt
import Derived.Deep.RegionLaw
import Derived.Lib.BufferRead
import Derived.KernelRfl
import Derived.Lib.Hide
import Derived.Lib.SplitLaws
import Derived.Shelf.Strings.OnBuilder
import Derived.Shelf.Small.Bits
import Derived.Shelf.Small.Wraps
import Derived.Shelf.LaysM
import Derived.Shelf.Strconv.Itoa3
import Derived.Shelf.LaysC
import Derived.Shelf.Strconv.AtoiAll
import Derived.Shelf.Strings.Search3
import Derived.Shelf.Strings.Cut
import Derived.Shelf.SlSortCmp.WholeK
import Derived.Shelf.Lays
import Derived.Shelf.SlLaysF0
import Derived.Test.YtnlakdpfkgjdaaaDoorWWords
import Derived.Test.YtnlakdpfkgjdaaaDoorWLast
import Derived.Test.YtnlakdpfkgjdaaaDoorWQPut
import Derived.Test.YtnlakdpfkgjdaaaDoorWApart
import Derived.Test.YtnlakdpfkgjdaaaDoorWArr
import Derived.Test.YtnlakdpfkgjdaaaDoorWZeros
import Derived.Test.YtnlakdpfkgjdaaaDoorWFoot
import Derived.Test.YtnlakdpfkgjdaaaDoorWKept
import Derived.Test.YtnlakdpfkgjdaaaDoorWShare
import Derived.Test.YtnlakdpfkgjdaaaDoorWN
import Derived.Test.YtnlakdpfkgjdaaaDoorWNEv
import Derived.Test.YtnlakdpfkgjdaaaDoorWMore
import Derived.IntWalk
import Derived.Lib.AppendIntMem
import Derived.Lib.ItoaLen
import Derived.Stop.LaidErr
import Derived.Lib.LaidTab
import Derived.LaidLaws
import Derived.Deep.DeepLaidRun
import Derived.ChangeSame
import Derived.ChangeVars
import Derived.JoinedOf
import Derived.RowKit
import Derived.RowKit3
import Derived.RowKitTokens
import Derived.HandedShaped
import Derived.Handed
import Derived.Shelf.Vars
import Derived.SevenTiedAt
import Derived.ProofKit
import Derived.OpenShut
import Derived.ShutString
import Derived.ChangeOld
import Derived.Below
import Derived.SizedLaws
import Derived.Carry
import Derived.Deep.Slices
import Derived.Deep.Draws
import Derived.Deep.AppendLies
import Derived.OwnWalk
import Derived.Laws.BytesArg
import Derived.Laws.MakeOwn
import Derived.Laws.OwnMore
import Derived.Deep.OwnRows
import Derived.Tactics
import Derived.Lib.ConvBytes
import Derived.Laws.Slices
import Derived.Deep.LoopGhost
import Derived.Deep.QuietTactic
import Derived.BigQuiet
import Derived.WideLaws
import Derived.Deep.DeepCutAuto
import Derived.Deep.CutBlock
import Derived.Deep.RegionHeld3
import Derived.Laws.Rows
import Derived.Lib.AppendStr
import Derived.ArgAppend
import Derived.Laws.IdiomCopy
import Derived.OrdersHeld
import Derived.Laws.BitsLemmas
import Derived.Test.YtnlakdpfkgjdaaaDoorWTab
import Derived.Test.YtnlakdpfkgjdaaaDoorWFour
import Derived.Test.YtnlakdpfkgjdaaaDoorWFootNe
import Derived.Test.YtnlakdpfkgjdaaaDoorWAt
import Derived.Test.YtnlakdpfkgjdaaaDoorWEqStruct
import Derived.Test.YtnlakdpfkgjdaaaDoorWRepsOne
import Derived.Test.YtnlakdpfkgjdaaaDoorWInv
import Derived.Test.YtnlakdpfkgjdaaaDoorWInvWords
import Derived.Test.YtnlakdpfkgjdaaaDoorWGuard
import Derived.RangeFuncNested
import Derived.RangeFuncBound
import Derived.RangeFuncCalls
import Derived.RangeFuncLeaves
import Derived.RangeFuncBox
import Derived.Shelf.Abstract
import Derived.Shelf.RegionOpen
import Derived.LoopNIn
import Derived.LoopIn
import Derived.Deep.RegionWith
import Derived.BigRegionIn
import Derived.RegionIn
import Derived.Sort.BigQuietIn
import Derived.StillTail
import Derived.StillTactics
import Derived.OrdersIn
import Derived.TacticsIn
import Derived.Stop.RegionWithIn
import Derived.Sort.CutIn
import Derived.Lib.IndexBytes
import Derived.Lib.IndexLaws
import Derived.Laws.Tables
import Derived.Test.YtnlakdpfkgjdaaaDoorKM1
/- The library's strings.Join and strconv.Itoa in the print's words. Conditions: bounds on lengths; a plain address; strconv's variables are as they are laid. -/
namespace Go.Proofs.YtnlakdpfkgjdaaaDoor.G
open Go.RowKit Go.Cav Go.Proofs.YtnlakdpfkgjdaaaDoorW.PrintWords Go.Proofs.YtnlakdpfkgjdaaaDoorW.PrintLast Go.Proofs.YtnlakdpfkgjdaaaDoorW.PrintMore
/-- texts side by side -/
def joinB (l : List ByteArray) (sep : ByteArray) : ByteArray := ⟨(Lib.join (l.map (·.data.toList)) sep.data.toList).toArray⟩
theorem plain_R {α : Type} {d : Kd α} {e base n c : Nat} {ok : Nat → Prop} {w : World} {A : Option Addr} {xs : List α} (h : d.R e w base ok (.slice A n c) xs) : ∀ ad, A = some ad → ∃ g, ad = ⟨g, 0, none⟩ ∧ g < w.heap.size := by
  obtain ⟨_, inner, ho, _⟩ := h
  rcases ho.2 with ⟨e1, _⟩ | ⟨g, cap, cur, e1, hb, hg, _⟩
  · cases e1; intro ad h; cases h
  · cases e1; intro ad h; cases h; exact ⟨g, rfl, (Array.getElem?_eq_some_iff.1 hg).1⟩
def strings_Join.f (l0 : List ByteArray) (a1 : ByteArray) : Option ByteArray := if l0.length ≤ 1000000000 ∧ (Lib.join (l0.map (·.data.toList)) a1.data.toList).length ≤ 140737488355328 then some (joinB l0 a1) else none
theorem strings_Join.calls (A0 : Option Addr) (c0 : Nat) (l0 : List ByteArray) (a1 : ByteArray) (r : ByteArray) (w : World) (hr0 : Kd.C Kd.string w A0 l0.length l0) (hc0 : l0.length ≤ c0) (h : strings_Join.f l0 a1 = some r) (hP : ∀ ad, A0 = some ad → ∃ g, ad = ⟨g, 0, none⟩ ∧ g < w.heap.size) :
    Calls Tryd.prog 36 #[.slice A0 l0.length c0, .string a1] w fun e w' => e = .returned (.string r) ∧ Below w.heap.size w w' := by
  unfold strings_Join.f at h
  split at h
  case isFalse => cases h
  case isTrue hb =>
    obtain rfl := Option.some.inj h
    rcases Nat.eq_zero_or_pos l0.length with h0 | h0
    · obtain rfl : l0 = [] := List.eq_nil_of_length_eq_zero h0
      refine (Tryd.strings_Join_none A0 c0 a1 w).mono ?_
      rintro e w' ⟨rfl, rfl⟩
      exact ⟨rfl, Below.refl _ _⟩
    · obtain ⟨ad, rfl, hc⟩ := hr0.2.2 h0
      obtain ⟨g, rfl, hg⟩ := hP ad rfl
      refine (Tryd.strings_Join g 0 c0 l0 a1 w (fun j x hj => ?_) hg (by omega) hc0 hb.2).mono fun e w' h => h
      obtain ⟨cs, h1, h2, h3⟩ := hc j x hj
      obtain rfl : cs = [.string x] := h2
      have h4 := h3 0 _ rfl
      have ha : (⟨g, 0, none⟩ : Addr).add (j * (Kd.string).sz + 0) = ⟨g, 0 + j, none⟩ := by
        show (⟨g, 0, none⟩ : Addr).add (j * 1 + 0) = _
        rw [Nat.mul_one, Nat.add_zero]
        unfold Addr.add
        split
        · rename_i h; rw [h]
        · rfl
      rw [ha] at h4
      exact h4
def strconv_Itoa.f (a0 : Int) : Option ByteArray := if -9223372036854775808 ≤ a0 ∧ a0 ≤ 9223372036854775807 then some (itoaB a0) else none
theorem strconv_Itoa.calls (a0 : Int) (r : ByteArray) (w : World) (h : strconv_Itoa.f a0 = some r) (hWd_ : Wd w) :
    Calls Tryd.prog 35 #[.int .i64 a0] w fun e w' => e = .returned (.string r) ∧ Below w.heap.size w w' := by
  unfold strconv_Itoa.f at h
  split at h
  case isFalse => cases h
  case isTrue hb =>
    obtain rfl := Option.some.inj h
    exact itoa_any a0 hb.1 hb.2 w hWd_
end Go.Proofs.YtnlakdpfkgjdaaaDoor.G

/- What caravan/spans.Text comes to, and its calls; by a program of mine over the kit's print. Conditions: where the plain function tells none, nothing is said. -/
namespace Go.Proofs.YtnlakdpfkgjdaaaDoor.G
open Go.RowKit Go.Proofs.YtnlakdpfkgjdaaaDoorW.PrintWords Go.Proofs.YtnlakdpfkgjdaaaDoorW.PrintLast Go.Proofs.YtnlakdpfkgjdaaaDoorW.PrintMore
attribute [local go_sem] max2_int min2_int max_two min_two max_three min_three max_four min_four   -- for this text's walks alone
set_option linter.unusedVariables false
set_option linter.unusedSimpArgs false

/-! ### spans_Text: function 22 -/
def spans_Text.l0 : Nat → List ByteArray → List (S31) → Int → Int → Option (ByteArray)
 | 0, _, _, _, _ => none
 | k + 1, x3, x8, x9, x10 => if x10 < x9 then (if 0 ≤ x10 then (if x10 < (x8.length : Int) then ((strconv_Itoa.f ((rd_T31 x8 x10).f0)).bind fun t107 => (if ((rd_T31 x8 x10).f1) > ((rd_T31 x8 x10).f0) then ((strconv_Itoa.f ((rd_T31 x8 x10).f1)).bind fun t108 => (if 1 + t108.size ≤ 9223372036854775807 then (if t107.size + ((⟨#[45]⟩ : ByteArray) ++ t108).size ≤ 9223372036854775807 then (if x3.length < 8796093022208 then (spans_Text.l0 k (x3 ++ [t107 ++ ((⟨#[45]⟩ : ByteArray) ++ t108)]) x8 x9 (wrap64 (x10 + 1))) else (none)) else (none)) else (none))) else (if x3.length < 8796093022208 then (spans_Text.l0 k (x3 ++ [t107]) x8 x9 (wrap64 (x10 + 1))) else (none)))) else (none)) else (none)) else ((strings_Join.f x3 (⟨#[44]⟩ : ByteArray)).bind fun t104 => (some t104))
def spans_Text.f (k : Nat) (l0 : List (S31)) : Option (ByteArray) := (spans_Norm.f k l0).bind fun t101 => (spans_Text.l0 k ([] : List ByteArray) t101 (t101.length : Int) 0)
theorem spans_Text.mono_l : ∀ k, (∀ y0 y1 y2 y3, LeO (spans_Text.l0 k y0 y1 y2 y3) (spans_Text.l0 (k + 1) y0 y1 y2 y3))
 | 0 => fun _ _ _ _ r h => by simp [spans_Text.l0] at h
 | k + 1 => by
  have ih0 := spans_Text.mono_l k
  ·intro y0 y1 y2 y3
   unfold spans_Text.l0
   repeat' first
   | (with_reducible exact ih0 _ _ _ _)
   | (with_reducible exact spans_Norm.mono _ _)
   | (with_reducible exact LeO.refl _)
   | (with_reducible exact LeO.none _)
   | (with_reducible refine LeO.ite ?_ ?_)
   | (with_reducible refine LeO.bind ?_ (fun _ => ?_))
   | exact ih0 _ _ _ _
   | exact spans_Norm.mono _ _
   | exact LeO.none _
   | refine LeO.ite ?_ ?_
   | refine LeO.bind ?_ (fun _ => ?_)
theorem spans_Text.mono : ∀ a0 k, LeO (spans_Text.f k a0) (spans_Text.f (k + 1) a0) := by
 intro a0 k
 have ih0 := spans_Text.mono_l k
 unfold spans_Text.f
 repeat' first
  | (with_reducible exact ih0 _ _ _ _)
  | (with_reducible exact spans_Norm.mono _ _)
  | (with_reducible exact LeO.refl _)
  | (with_reducible exact LeO.none _)
  | (with_reducible refine LeO.ite ?_ ?_)
  | (with_reducible refine LeO.bind ?_ (fun _ => ?_))
  | exact ih0 _ _ _ _
  | exact spans_Norm.mono _ _
  | exact LeO.none _
  | refine LeO.ite ?_ ?_
  | refine LeO.bind ?_ (fun _ => ?_)
set_option maxHeartbeats 8000000 in
set_option maxRecDepth 100000 in
theorem spans_Text.calls (k : Nat) (A0 : Option Addr) (c0 : Nat) (l0 : List (S31)) (r : ByteArray) (w : World) (hr0 : Kd.C k31 w A0 l0.length l0) (hc0 : l0.length ≤ c0) (h : spans_Text.f k l0 = some r) (hWd_ : Wd w) :
 Calls Tryd.prog 22 #[.slice A0 l0.length c0] w fun e w' => e = .returned (.string r) ∧ Below w.heap.size w w' := by
 have hu31 := Tryd.underlying31
 have HR0 := Aside0.mk hr0
 have HC0 := Aside0.mk hc0
 clear hr0 hc0
 have HB := Aside0.mk (Below.refl w.heap.size w)
 have H : ((spans_Norm.f k l0).bind fun t101 => (spans_Text.l0 k ([] : List ByteArray) t101 (t101.length : Int) 0)) = some r := h
 clear h
 replace H := Option.bind_eq_some_iff.mp H
 obtain ⟨t101, A20, H⟩ := H
 replace H : (spans_Text.l0 k ([] : List ByteArray) t101 (t101.length : Int) 0) = some r := H
 have A2 := Aside0.mk A20
 clear A20
 have H' := Aside0.mk H
 clear H
 go_enter Tryd.func22, Tryd.ntmps22
 go_wp2_with (first | ((with_reducible refine gate_callee (f := 16) rfl ?_); refine goesL_ (some 8) rfl rfl Tryd.func16 (by kernel_rfl) rfl #[.slice A0 l0.length c0] rfl (by (try simp only [List.map_toArray, List.map_cons, List.map_nil]); first | done | rfl | (simp only [List.length_drop, List.length_take]; rfl)) ?_; (with_reducible refine (spans_Norm.calls k _ _ l0 t101 _ ?side1 ?side2 A2.out).mono ?_); (case side1 => repeat (first | exact HR0.out | (with_reducible refine Kd.C_alloc ?_ _) | (with_reducible refine Kd.C_drewN ?_ _) | (with_reducible refine Kd.C_drew ?_))); (case side2 => exact HC0.out); rintro e w3 ⟨v102, rfl, ho0, hb⟩; refine ⟨_, rfl, ?_⟩; have n0_ := Aside0.mk (Kd.R_lower ho0 (below_size (by repeat (first | (with_reducible first | exact HB.out | apply below_alloc | apply pw_below_drewN | apply below_drew1) | exact HB.out)))); have n1_ := Aside0.mk (below_step (by repeat (first | (with_reducible first | exact HB.out | apply below_alloc | apply pw_below_drewN | apply below_drew1) | exact HB.out)) hb); clear HB; have HO103 := n0_; have HB := n1_; clear n0_ n1_; (try clear hb); (try clear hb2); (try clear hk); (try clear hi); (try clear ho0); obtain ⟨Ao4, co4, eo4⟩ := Kd.R_slice HO103.out; subst eo4))
 go_loopg [3, 10] k (fun kq v3 v10 w' => ∃ (x3_1 : List ByteArray) (x10_1 : Int), v10 = .int .i64 x10_1 ∧ Aside0 (spans_Text.l0 kq x3_1 t101 (t101.length : Int) x10_1 = some r) ∧ Aside0 (kq ≤ k) ∧ Aside0 (Kd.R Kd.string 9 w' w.heap.size (fun _ => True) v3 x3_1) ∧ Aside0 (Kd.R k31 31 w' w.heap.size (fun _ => True) (.slice Ao4 t101.length co4) t101) ∧ Aside0 (Below w.heap.size w w'))
 case atStart => exact ⟨(([] : List ByteArray)), (0), (by first | rfl | (simp; done) | (simp [*]; done)), H', ⟨Nat.le_refl _⟩, ⟨by first | exact Kd.R_nil _ _ _ _ _ | exact Kd.N_nil _ _ _ _ _ | exact Kd.V_nil _ _ _ _ _ | exact Kd.Q_nil _ _ _ _ _ | exact Kd.S_nil _ _ _ _ _⟩, ⟨by (with_reducible repeat (first | apply Kd.R_alloc | apply Kd.R_drewN | apply Kd.R_drew)); exact HO103.out⟩, ⟨by repeat (first | (with_reducible first | exact HB.out | apply below_alloc | apply pw_below_drewN | apply below_drew1) | exact HB.out)⟩⟩
 case round =>
  clear H'
  try clear c1
  try clear c2
  try clear p2
  obtain ⟨x3_1, x10_1, rfl, HA, HK1, HO_3, HO_8, HB⟩ := hrel
  cases gk with
  | zero => exact absurd HA.out (by simp [spans_Text.l0])
  | succ k1 =>
   have H := HA.out
   clear HA
   simp only [spans_Text.l0] at H
   by_cases c5 : x10_1 < (t101.length : Int)
   ·rw [if_pos c5] at H
    have c5b0 : decide (x10_1 < (t101.length : Int)) = true := decide_eq_true c5
    clear c5
    by_cases c6 : 0 ≤ x10_1
    ·rw [if_pos c6] at H
     have c6b0 : decide (0 ≤ x10_1) = true := decide_eq_true c6
     clear c6
     by_cases c7 : x10_1 < (t101.length : Int)
     ·rw [if_pos c7] at H
      have c7b0 : decide (x10_1 < (t101.length : Int)) = true := decide_eq_true c7
      clear c7
      replace H := Option.bind_eq_some_iff.mp H
      obtain ⟨t107, A80, H⟩ := H
      replace H : (if ((rd_T31 t101 x10_1).f1) > ((rd_T31 t101 x10_1).f0) then ((strconv_Itoa.f ((rd_T31 t101 x10_1).f1)).bind fun t108 => (if 1 + t108.size ≤ 9223372036854775807 then (if t107.size + ((⟨#[45]⟩ : ByteArray) ++ t108).size ≤ 9223372036854775807 then (if x3_1.length < 8796093022208 then (spans_Text.l0 k1 (x3_1 ++ [t107 ++ ((⟨#[45]⟩ : ByteArray) ++ t108)]) t101 (t101.length : Int) (wrap64 (x10_1 + 1))) else (none)) else (none)) else (none))) else (if x3_1.length < 8796093022208 then (spans_Text.l0 k1 (x3_1 ++ [t107]) t101 (t101.length : Int) (wrap64 (x10_1 + 1))) else (none))) = some r := H
      have A8 := Aside0.mk A80
      clear A80
      by_cases c9 : ((rd_T31 t101 x10_1).f1) > ((rd_T31 t101 x10_1).f0)
      ·rw [if_pos c9] at H
       have c9b0 : decide (((rd_T31 t101 x10_1).f0) < ((rd_T31 t101 x10_1).f1)) = true := decide_eq_true c9
       clear c9
       replace H := Option.bind_eq_some_iff.mp H
       obtain ⟨t108, A100, H⟩ := H
       replace H : (if 1 + t108.size ≤ 9223372036854775807 then (if t107.size + ((⟨#[45]⟩ : ByteArray) ++ t108).size ≤ 9223372036854775807 then (if x3_1.length < 8796093022208 then (spans_Text.l0 k1 (x3_1 ++ [t107 ++ ((⟨#[45]⟩ : ByteArray) ++ t108)]) t101 (t101.length : Int) (wrap64 (x10_1 + 1))) else (none)) else (none)) else (none)) = some r := H
       have A10 := Aside0.mk A100
       clear A100
       by_cases c11 : 1 + t108.size ≤ 9223372036854775807
       ·rw [if_pos c11] at H
        have c11b0 := eq_true c11
        have c11b1 : decide (1 + t108.size ≤ 9223372036854775807) = true := decide_eq_true c11
        try have c11b2 : (9223372036854775807 < 1 + t108.size) = False := eq_false (Nat.not_lt.2 c11)
        by_cases c12 : t107.size + ((⟨#[45]⟩ : ByteArray) ++ t108).size ≤ 9223372036854775807
        ·rw [if_pos c12] at H
         have c12b0 := eq_true c12
         have c12b1 : decide (t107.size + ((⟨#[45]⟩ : ByteArray) ++ t108).size ≤ 9223372036854775807) = true := decide_eq_true c12
         try have c12b2 : (9223372036854775807 < t107.size + ((⟨#[45]⟩ : ByteArray) ++ t108).size) = False := eq_false (Nat.not_lt.2 c12)
         try (have c12b3 := c12b2; simp only [ByteArray.size_append] at c12b3)
         try (have c12b4 := c12b3; simp only [show (⟨#[45]⟩ : ByteArray).size = 1 from rfl] at c12b4)
         by_cases c13 : x3_1.length < 8796093022208
         ·rw [if_pos c13] at H
          have LMc13 := Aside0.mk c13
          clear c13
          obtain ⟨y109, hy109⟩ : ∃ y_ : List ByteArray, y_ = (x3_1 ++ [t107 ++ ((⟨#[45]⟩ : ByteArray) ++ t108)]) := ⟨_, rfl⟩
          replace H : (spans_Text.l0 k1 y109 t101 (t101.length : Int) (wrap64 (x10_1 + 1))) = some r := by first | (rw [hy109]; with_reducible exact H) | (have H2_ := (Option.bind_some _ _).symm.trans H; rw [hy109]; with_reducible exact H2_) | (have H2_ := (Option.bind_some _ _).symm.trans H; with_reducible exact H2_) | with_reducible exact H | (rw [hy109]; exact H) | exact H
          have Ny109 := Aside0.mk hy109
          clear hy109
          have H' := Aside0.mk H
          clear H
          have p105 : 0 ≤ (x10_1 : Int) := of_decide_eq_true (by first | (with_reducible assumption) | assumption)
          have q105 : x10_1 < (t101.length : Int) := of_decide_eq_true (by first | (with_reducible assumption) | assumption)
          obtain ⟨ad105, e105, hx105_0, hx105_1⟩ := at_T31 (Kd.R_reads' HO_8.out).2.2 x10_1 p105 q105
          cases e105
          replace p105 := eq_true p105
          replace q105 := eq_true q105
          go_wp2_with (first | ((with_reducible refine gate_dst (N := 5) rfl ?_); refine box_event ?hg (N := 5) ?hd (cs := #[.int .i64 0, .int .i64 0]) (t := 31) ?hr ?_; (case hd => rfl); (case hg => rfl); (case hr => first | (go_simp; done) | (go_simp; rfl)); intro gb106 hg w14 hbox hb; have n0_ := Aside0.mk (Kd.R_below (by (with_reducible repeat (first | apply Kd.R_alloc | apply Kd.R_drewN | apply Kd.R_drew)); exact HO_3.out) hb); have n1_ := Aside0.mk (Kd.R_below (Kd.R_elderB (by (with_reducible repeat (first | apply Kd.R_alloc | apply Kd.R_drewN | apply Kd.R_drew)); exact HO_8.out) gb106 (Nat.le_of_eq hg.symm)) hb); have n2_ := Aside0.mk (below_step (by repeat (first | (with_reducible first | exact HB.out | apply below_alloc | apply pw_below_drewN | apply below_drew1) | exact HB.out)) hb); have n3_ := Aside0.mk (hbox); have n4_ := Aside0.mk ((by rw [hg]; exact (below_size (by repeat (first | (with_reducible first | exact HB.out | apply below_alloc | apply pw_below_drewN | apply below_drew1) | exact HB.out))) : w.heap.size ≤ gb106)); have n5_ := Aside0.mk ((by rw [hg]; exact (below_size (by repeat (first | (with_reducible first | exact HB.out | apply below_alloc | apply pw_below_drewN | apply below_drew1) | exact HB.out))) : w.heap.size ≤ gb106)); clear HO_3; clear HO_8; clear HB; have HO_3 := n0_; have HO_8 := n1_; have HB := n2_; have BK106 := n3_; have GW106 := n4_; have GE106 := n5_; clear n0_ n1_ n2_ n3_ n4_ n5_; clear hb hbox hg; have hcz15_0 : w14.cell? ⟨gb106, 0, none⟩ = some (.int .i64 0) := (blk_cell BK106.out 0).trans rfl; have hcz15_1 : w14.cell? ⟨gb106, 1, none⟩ = some (.int .i64 0) := (blk_cell BK106.out 1).trans rfl; have hfz15_0 := blk_frozen BK106.out 0; have hfz15_1 := blk_frozen BK106.out 1) | ((with_reducible refine gate_callee (f := 35) rfl ?_); refine goesL_ (some 16) rfl rfl Tryd.func35 (by kernel_rfl) rfl #[.int .i64 ((rd_T31 t101 x10_1).f0)] rfl (by (try simp only [List.map_toArray, List.map_cons, List.map_nil]); first | done | rfl | (simp only [List.length_drop, List.length_take]; rfl)) ?_; (with_reducible refine (strconv_Itoa.calls ((rd_T31 t101 x10_1).f0) t107 _ A8.out (Wd.of hWd_ (by repeat (first | (with_reducible first | exact HB.out | apply below_alloc | apply pw_below_drewN | apply below_drew1 | refine below_set ?_ GE106.out) | exact HB.out)))).mono ?_); rintro e w16 ⟨rfl, hb⟩; refine ⟨_, rfl, ?_⟩; have n0_ := Aside0.mk (Kd.R_below (by (with_reducible repeat (first | apply Kd.R_alloc | apply Kd.R_drewN | apply Kd.R_drew)); exact (Kd.R_mono (Kd.R_far (p := ⟨gb106, 1, none⟩) (Kd.R_far (p := ⟨gb106, 0, none⟩) (Kd.R_types HO_3.out BK106.out (by decide)) (fun _ hk => hk.2) (.int .i64 ((rd_T31 t101 x10_1).f0))) (fun _ hk => hk.2) (.int .i64 ((rd_T31 t101 x10_1).f1))) (fun _ h_ => h_.1))) hb); have n1_ := Aside0.mk (Kd.R_below (by (with_reducible repeat (first | apply Kd.R_alloc | apply Kd.R_drewN | apply Kd.R_drew)); exact (Kd.R_mono (Kd.R_far (p := ⟨gb106, 1, none⟩) (Kd.R_far (p := ⟨gb106, 0, none⟩) (Kd.R_mono HO_8.out (fun k_ hk => (⟨hk, hk.2⟩ : _ ∧ k_ ≠ gb106))) (fun _ hk => hk.2) (.int .i64 ((rd_T31 t101 x10_1).f0))) (fun _ hk => hk.2) (.int .i64 ((rd_T31 t101 x10_1).f1))) (fun _ h_ => h_.1))) hb); have n2_ := Aside0.mk (blk_below (g := gb106) (o := .cells #[.int .i64 ((rd_T31 t101 x10_1).f0), .int .i64 ((rd_T31 t101 x10_1).f1)] 31 (0, 0)) (by (with_reducible repeat (first | refine blk_drewN ?_ _ | refine blk_drew ?_ | refine blk_alloc ?_ _)); refine blk_put (cs := #[.int .i64 ((rd_T31 t101 x10_1).f0), .int .i64 0]) ?_ 1 _ rfl; (with_reducible repeat (first | refine blk_drewN ?_ _ | refine blk_drew ?_ | refine blk_alloc ?_ _)); refine blk_put (cs := #[.int .i64 0, .int .i64 0]) ?_ 0 _ rfl; (with_reducible repeat (first | refine blk_drewN ?_ _ | refine blk_drew ?_ | refine blk_alloc ?_ _)); exact BK106.out) hb); have n3_ := Aside0.mk (below_step (by repeat (first | (with_reducible first | exact HB.out | apply below_alloc | apply pw_below_drewN | apply below_drew1 | refine below_set ?_ GE106.out) | exact HB.out)) hb); clear HO_3; clear HO_8; clear BK106; clear HB; have HO_3 := n0_; have HO_8 := n1_; have BK106 := n2_; have HB := n3_; clear n0_ n1_ n2_ n3_; (try clear hb); (try clear hb2); (try clear hk); (try clear hi); have hcz17_0 : w16.cell? ⟨gb106, 0, none⟩ = some (.int .i64 ((rd_T31 t101 x10_1).f0)) := (blk_cell BK106.out 0).trans rfl; have hcz17_1 : w16.cell? ⟨gb106, 1, none⟩ = some (.int .i64 ((rd_T31 t101 x10_1).f1)) := (blk_cell BK106.out 1).trans rfl; have hfz17_0 := blk_frozen BK106.out 0; have hfz17_1 := blk_frozen BK106.out 1) | ((with_reducible refine gate_callee (f := 35) rfl ?_); refine goesL_ (some 25) rfl rfl Tryd.func35 (by kernel_rfl) rfl #[.int .i64 ((rd_T31 t101 x10_1).f1)] rfl (by (try simp only [List.map_toArray, List.map_cons, List.map_nil]); first | done | rfl | (simp only [List.length_drop, List.length_take]; rfl)) ?_; (with_reducible refine (strconv_Itoa.calls ((rd_T31 t101 x10_1).f1) t108 _ A10.out (Wd.of hWd_ (by repeat (first | (with_reducible first | exact HB.out | apply below_alloc | apply pw_below_drewN | apply below_drew1 | refine below_set ?_ GE106.out) | exact HB.out)))).mono ?_); rintro e w18 ⟨rfl, hb⟩; refine ⟨_, rfl, ?_⟩; have n0_ := Aside0.mk (Kd.R_below (by (with_reducible repeat (first | apply Kd.R_alloc | apply Kd.R_drewN | apply Kd.R_drew)); exact HO_3.out) hb); have n1_ := Aside0.mk (Kd.R_below (by (with_reducible repeat (first | apply Kd.R_alloc | apply Kd.R_drewN | apply Kd.R_drew)); exact HO_8.out) hb); have n2_ := Aside0.mk (blk_below (g := gb106) (o := .cells #[.int .i64 ((rd_T31 t101 x10_1).f0), .int .i64 ((rd_T31 t101 x10_1).f1)] 31 (0, 0)) (by (with_reducible repeat (first | refine blk_drewN ?_ _ | refine blk_drew ?_ | refine blk_alloc ?_ _)); exact BK106.out) hb); have n3_ := Aside0.mk (below_step (by repeat (first | (with_reducible first | exact HB.out | apply below_alloc | apply pw_below_drewN | apply below_drew1 | refine below_set ?_ GE106.out) | exact HB.out)) hb); clear HO_3; clear HO_8; clear BK106; clear HB; have HO_3 := n0_; have HO_8 := n1_; have BK106 := n2_; have HB := n3_; clear n0_ n1_ n2_ n3_; (try clear hb); (try clear hb2); (try clear hk); (try clear hi)) | ((with_reducible refine gate_builtin (b := .append) (xs := #[.tmp 28, .tmp 30]) rfl ?_); at_builtin; refine Kd.R_append Kd.string (w0 := w) w.heap.size rfl (.tmp 28) (.tmp 30) 32 9 (.string ⟨#[]⟩) 16 rfl Tryd.underlying32 info9 rfl (by decide) (by omega) u3 x3_1 (t107 ++ ((⟨#[45]⟩ : ByteArray) ++ t108)) [.string (t107 ++ ((⟨#[45]⟩ : ByteArray) ++ t108))] (fun _ => True) (fun _ => False) rfl rfl ?aP (fun _ hk => hk.elim) ?aF ?aO ?aB ?aS ?aL ?_; (case aP => exact rfl); (case aB => exact (by repeat (first | (with_reducible first | exact HB.out | apply below_alloc | apply pw_below_drewN | apply below_drew1 | refine below_set ?_ GE106.out) | exact HB.out))); (case aF => exact (fun _ _ => trivial)); (case aO => exact (by (with_reducible repeat (first | apply Kd.R_alloc | apply Kd.R_drewN | apply Kd.R_drew)); exact HO_3.out)); (case aS => exact (below_size (by repeat (first | (with_reducible first | exact HB.out | apply below_alloc | apply pw_below_drewN | apply below_drew1 | refine below_set ?_ GE106.out) | exact HB.out)))); (case aL => have := LMc13.out; omega); intro v110 w19 ho hb hg hat; rw [← Ny109.out] at ho; have n0_ := Aside0.mk (Kd.R_over' (by (with_reducible repeat (first | apply Kd.R_alloc | apply Kd.R_drewN | apply Kd.R_drew)); exact HO_8.out) (Kd.R_typed (by (with_reducible repeat (first | apply Kd.R_alloc | apply Kd.R_drewN | apply Kd.R_drew)); exact HO_3.out)) (by decide) hg); have n1_ := Aside0.mk (blk_grown (g := gb106) (o := .cells #[.int .i64 ((rd_T31 t101 x10_1).f0), .int .i64 ((rd_T31 t101 x10_1).f1)] 31 (0, 0)) (by (with_reducible repeat (first | refine blk_drewN ?_ _ | refine blk_drew ?_ | refine blk_alloc ?_ _)); exact BK106.out) hg (Kd.R_ne HO_3.out BK106.out (by decide))); have n2_ := Aside0.mk (hb); have n3_ := Aside0.mk (ho); clear HO_8; clear BK106; clear HB; clear HO_3; have HO_8 := n0_; have BK106 := n1_; have HB := n2_; have HO111 := n3_; clear n0_ n1_ n2_ n3_; clear ho hb hg hat))
          go_roundg k1
          case measure => have := HK1.out; omega
          case rel => exact ⟨(y109), (wrap64 (x10_1 + 1)), (by first | rfl | (simp; done) | (simp [*]; done)), H', ⟨by have := HK1.out; omega⟩, ⟨by (with_reducible repeat (first | apply Kd.R_alloc | apply Kd.R_drewN | apply Kd.R_drew)); exact HO111.out⟩, ⟨by (with_reducible repeat (first | apply Kd.R_alloc | apply Kd.R_drewN | apply Kd.R_drew)); exact Kd.R_mono HO_8.out (fun _ hk => trivial)⟩, ⟨by repeat (first | (with_reducible first | exact HB.out | apply below_alloc | apply pw_below_drewN | apply below_drew1 | refine below_set ?_ GE106.out) | exact HB.out)⟩⟩
         ·rw [if_neg c13] at H
          exact absurd H (by simp)
        ·rw [if_neg c12] at H
         exact absurd H (by simp)
       ·rw [if_neg c11] at H
        exact absurd H (by simp)
      ·rw [if_neg c9] at H
       have c9b0 : decide (((rd_T31 t101 x10_1).f0) < ((rd_T31 t101 x10_1).f1)) = false := decide_eq_false c9
       clear c9
       by_cases c20 : x3_1.length < 8796093022208
       ·rw [if_pos c20] at H
        have LMc20 := Aside0.mk c20
        clear c20
        obtain ⟨y112, hy112⟩ : ∃ y_ : List ByteArray, y_ = (x3_1 ++ [t107]) := ⟨_, rfl⟩
        replace H : (spans_Text.l0 k1 y112 t101 (t101.length : Int) (wrap64 (x10_1 + 1))) = some r := by first | (rw [hy112]; with_reducible exact H) | (have H2_ := (Option.bind_some _ _).symm.trans H; rw [hy112]; with_reducible exact H2_) | (have H2_ := (Option.bind_some _ _).symm.trans H; with_reducible exact H2_) | with_reducible exact H | (rw [hy112]; exact H) | exact H
        have Ny112 := Aside0.mk hy112
        clear hy112
        have H' := Aside0.mk H
        clear H
        have p105 : 0 ≤ (x10_1 : Int) := of_decide_eq_true (by first | (with_reducible assumption) | assumption)
        have q105 : x10_1 < (t101.length : Int) := of_decide_eq_true (by first | (with_reducible assumption) | assumption)
        obtain ⟨ad105, e105, hx105_0, hx105_1⟩ := at_T31 (Kd.R_reads' HO_8.out).2.2 x10_1 p105 q105
        cases e105
        replace p105 := eq_true p105
        replace q105 := eq_true q105
        go_wp2_with (first | ((with_reducible refine gate_dst (N := 5) rfl ?_); refine box_event ?hg (N := 5) ?hd (cs := #[.int .i64 0, .int .i64 0]) (t := 31) ?hr ?_; (case hd => rfl); (case hg => rfl); (case hr => first | (go_simp; done) | (go_simp; rfl)); intro gb106 hg w21 hbox hb; have n0_ := Aside0.mk (Kd.R_below (by (with_reducible repeat (first | apply Kd.R_alloc | apply Kd.R_drewN | apply Kd.R_drew)); exact HO_3.out) hb); have n1_ := Aside0.mk (Kd.R_below (Kd.R_elderB (by (with_reducible repeat (first | apply Kd.R_alloc | apply Kd.R_drewN | apply Kd.R_drew)); exact HO_8.out) gb106 (Nat.le_of_eq hg.symm)) hb); have n2_ := Aside0.mk (below_step (by repeat (first | (with_reducible first | exact HB.out | apply below_alloc | apply pw_below_drewN | apply below_drew1) | exact HB.out)) hb); have n3_ := Aside0.mk (hbox); have n4_ := Aside0.mk ((by rw [hg]; exact (below_size (by repeat (first | (with_reducible first | exact HB.out | apply below_alloc | apply pw_below_drewN | apply below_drew1) | exact HB.out))) : w.heap.size ≤ gb106)); have n5_ := Aside0.mk ((by rw [hg]; exact (below_size (by repeat (first | (with_reducible first | exact HB.out | apply below_alloc | apply pw_below_drewN | apply below_drew1) | exact HB.out))) : w.heap.size ≤ gb106)); clear HO_3; clear HO_8; clear HB; have HO_3 := n0_; have HO_8 := n1_; have HB := n2_; have BK106 := n3_; have GW106 := n4_; have GE106 := n5_; clear n0_ n1_ n2_ n3_ n4_ n5_; clear hb hbox hg; have hcz22_0 : w21.cell? ⟨gb106, 0, none⟩ = some (.int .i64 0) := (blk_cell BK106.out 0).trans rfl; have hcz22_1 : w21.cell? ⟨gb106, 1, none⟩ = some (.int .i64 0) := (blk_cell BK106.out 1).trans rfl; have hfz22_0 := blk_frozen BK106.out 0; have hfz22_1 := blk_frozen BK106.out 1) | ((with_reducible refine gate_callee (f := 35) rfl ?_); refine goesL_ (some 16) rfl rfl Tryd.func35 (by kernel_rfl) rfl #[.int .i64 ((rd_T31 t101 x10_1).f0)] rfl (by (try simp only [List.map_toArray, List.map_cons, List.map_nil]); first | done | rfl | (simp only [List.length_drop, List.length_take]; rfl)) ?_; (with_reducible refine (strconv_Itoa.calls ((rd_T31 t101 x10_1).f0) t107 _ A8.out (Wd.of hWd_ (by repeat (first | (with_reducible first | exact HB.out | apply below_alloc | apply pw_below_drewN | apply below_drew1 | refine below_set ?_ GE106.out) | exact HB.out)))).mono ?_); rintro e w23 ⟨rfl, hb⟩; refine ⟨_, rfl, ?_⟩; have n0_ := Aside0.mk (Kd.R_below (by (with_reducible repeat (first | apply Kd.R_alloc | apply Kd.R_drewN | apply Kd.R_drew)); exact (Kd.R_mono (Kd.R_far (p := ⟨gb106, 1, none⟩) (Kd.R_far (p := ⟨gb106, 0, none⟩) (Kd.R_types HO_3.out BK106.out (by decide)) (fun _ hk => hk.2) (.int .i64 ((rd_T31 t101 x10_1).f0))) (fun _ hk => hk.2) (.int .i64 ((rd_T31 t101 x10_1).f1))) (fun _ h_ => h_.1))) hb); have n1_ := Aside0.mk (Kd.R_below (by (with_reducible repeat (first | apply Kd.R_alloc | apply Kd.R_drewN | apply Kd.R_drew)); exact (Kd.R_mono (Kd.R_far (p := ⟨gb106, 1, none⟩) (Kd.R_far (p := ⟨gb106, 0, none⟩) (Kd.R_mono HO_8.out (fun k_ hk => (⟨hk, hk.2⟩ : _ ∧ k_ ≠ gb106))) (fun _ hk => hk.2) (.int .i64 ((rd_T31 t101 x10_1).f0))) (fun _ hk => hk.2) (.int .i64 ((rd_T31 t101 x10_1).f1))) (fun _ h_ => h_.1))) hb); have n2_ := Aside0.mk (blk_below (g := gb106) (o := .cells #[.int .i64 ((rd_T31 t101 x10_1).f0), .int .i64 ((rd_T31 t101 x10_1).f1)] 31 (0, 0)) (by (with_reducible repeat (first | refine blk_drewN ?_ _ | refine blk_drew ?_ | refine blk_alloc ?_ _)); refine blk_put (cs := #[.int .i64 ((rd_T31 t101 x10_1).f0), .int .i64 0]) ?_ 1 _ rfl; (with_reducible repeat (first | refine blk_drewN ?_ _ | refine blk_drew ?_ | refine blk_alloc ?_ _)); refine blk_put (cs := #[.int .i64 0, .int .i64 0]) ?_ 0 _ rfl; (with_reducible repeat (first | refine blk_drewN ?_ _ | refine blk_drew ?_ | refine blk_alloc ?_ _)); exact BK106.out) hb); have n3_ := Aside0.mk (below_step (by repeat (first | (with_reducible first | exact HB.out | apply below_alloc | apply pw_below_drewN | apply below_drew1 | refine below_set ?_ GE106.out) | exact HB.out)) hb); clear HO_3; clear HO_8; clear BK106; clear HB; have HO_3 := n0_; have HO_8 := n1_; have BK106 := n2_; have HB := n3_; clear n0_ n1_ n2_ n3_; (try clear hb); (try clear hb2); (try clear hk); (try clear hi); have hcz24_0 : w23.cell? ⟨gb106, 0, none⟩ = some (.int .i64 ((rd_T31 t101 x10_1).f0)) := (blk_cell BK106.out 0).trans rfl; have hcz24_1 : w23.cell? ⟨gb106, 1, none⟩ = some (.int .i64 ((rd_T31 t101 x10_1).f1)) := (blk_cell BK106.out 1).trans rfl; have hfz24_0 := blk_frozen BK106.out 0; have hfz24_1 := blk_frozen BK106.out 1) | ((with_reducible refine gate_builtin (b := .append) (xs := #[.tmp 28, .tmp 30]) rfl ?_); at_builtin; refine Kd.R_append Kd.string (w0 := w) w.heap.size rfl (.tmp 28) (.tmp 30) 32 9 (.string ⟨#[]⟩) 16 rfl Tryd.underlying32 info9 rfl (by decide) (by omega) u3 x3_1 t107 [.string t107] (fun _ => True) (fun _ => False) rfl rfl ?aP (fun _ hk => hk.elim) ?aF ?aO ?aB ?aS ?aL ?_; (case aP => exact rfl); (case aB => exact (by repeat (first | (with_reducible first | exact HB.out | apply below_alloc | apply pw_below_drewN | apply below_drew1 | refine below_set ?_ GE106.out) | exact HB.out))); (case aF => exact (fun _ _ => trivial)); (case aO => exact (by (with_reducible repeat (first | apply Kd.R_alloc | apply Kd.R_drewN | apply Kd.R_drew)); exact HO_3.out)); (case aS => exact (below_size (by repeat (first | (with_reducible first | exact HB.out | apply below_alloc | apply pw_below_drewN | apply below_drew1 | refine below_set ?_ GE106.out) | exact HB.out)))); (case aL => have := LMc20.out; omega); intro v113 w25 ho hb hg hat; rw [← Ny112.out] at ho; have n0_ := Aside0.mk (Kd.R_over' (by (with_reducible repeat (first | apply Kd.R_alloc | apply Kd.R_drewN | apply Kd.R_drew)); exact HO_8.out) (Kd.R_typed (by (with_reducible repeat (first | apply Kd.R_alloc | apply Kd.R_drewN | apply Kd.R_drew)); exact HO_3.out)) (by decide) hg); have n1_ := Aside0.mk (blk_grown (g := gb106) (o := .cells #[.int .i64 ((rd_T31 t101 x10_1).f0), .int .i64 ((rd_T31 t101 x10_1).f1)] 31 (0, 0)) (by (with_reducible repeat (first | refine blk_drewN ?_ _ | refine blk_drew ?_ | refine blk_alloc ?_ _)); exact BK106.out) hg (Kd.R_ne HO_3.out BK106.out (by decide))); have n2_ := Aside0.mk (hb); have n3_ := Aside0.mk (ho); clear HO_8; clear BK106; clear HB; clear HO_3; have HO_8 := n0_; have BK106 := n1_; have HB := n2_; have HO114 := n3_; clear n0_ n1_ n2_ n3_; clear ho hb hg hat))
        go_roundg k1
        case measure => have := HK1.out; omega
        case rel => exact ⟨(y112), (wrap64 (x10_1 + 1)), (by first | rfl | (simp; done) | (simp [*]; done)), H', ⟨by have := HK1.out; omega⟩, ⟨by (with_reducible repeat (first | apply Kd.R_alloc | apply Kd.R_drewN | apply Kd.R_drew)); exact HO114.out⟩, ⟨by (with_reducible repeat (first | apply Kd.R_alloc | apply Kd.R_drewN | apply Kd.R_drew)); exact Kd.R_mono HO_8.out (fun _ hk => trivial)⟩, ⟨by repeat (first | (with_reducible first | exact HB.out | apply below_alloc | apply pw_below_drewN | apply below_drew1 | refine below_set ?_ GE106.out) | exact HB.out)⟩⟩
       ·rw [if_neg c20] at H
        exact absurd H (by simp)
     ·rw [if_neg c7] at H
      exact absurd H (by simp)
    ·rw [if_neg c6] at H
     exact absurd H (by simp)
   ·rw [if_neg c5] at H
    have c5b0 : decide (x10_1 < (t101.length : Int)) = false := decide_eq_false c5
    clear c5
    replace H := Option.bind_eq_some_iff.mp H
    obtain ⟨t104, A260, H⟩ := H
    replace H : (some t104) = some r := H
    have A26 := Aside0.mk A260
    clear A260
    obtain rfl := Option.some.inj H
    obtain ⟨Ao27, co27, eo27⟩ := Kd.R_slice HO_3.out
    subst eo27
    go_wp2_with (first | ((with_reducible refine gate_callee (f := 36) rfl ?_); refine goesL_ (some 34) rfl rfl Tryd.func36 (by kernel_rfl) rfl #[.slice Ao27 x3_1.length co27, .string (⟨#[44]⟩ : ByteArray)] rfl (by (try simp only [List.map_toArray, List.map_cons, List.map_nil]); first | done | rfl | (simp only [List.length_drop, List.length_take]; rfl)) ?_; (with_reducible refine (strings_Join.calls _ _ x3_1 (⟨#[44]⟩ : ByteArray) t104 _ ?side1 ?side2 A26.out (plain_R (by (with_reducible repeat (first | apply Kd.R_alloc | apply Kd.R_drewN | apply Kd.R_drew)); exact HO_3.out))).mono ?_); (case side1 => repeat (first | exact (Kd.R_reads' HO_3.out).2.2 | (with_reducible refine Kd.C_alloc ?_ _) | (with_reducible refine Kd.C_drewN ?_ _) | (with_reducible refine Kd.C_drew ?_))); (case side2 => exact (Kd.R_reads' HO_3.out).2.1); rintro e w28 ⟨rfl, hb⟩; refine ⟨_, rfl, ?_⟩; have n0_ := Aside0.mk (Kd.R_below (by (with_reducible repeat (first | apply Kd.R_alloc | apply Kd.R_drewN | apply Kd.R_drew)); exact HO_3.out) hb); have n1_ := Aside0.mk (Kd.R_below (by (with_reducible repeat (first | apply Kd.R_alloc | apply Kd.R_drewN | apply Kd.R_drew)); exact HO_8.out) hb); have n2_ := Aside0.mk (below_step (by repeat (first | (with_reducible first | exact HB.out | apply below_alloc | apply pw_below_drewN | apply below_drew1) | exact HB.out)) hb); clear HO_3; clear HO_8; clear HB; have HO_3 := n0_; have HO_8 := n1_; have HB := n2_; clear n0_ n1_ n2_; (try clear hb); (try clear hb2); (try clear hk); (try clear hi)))
    go_ret
    exact ⟨by first | rfl | (simp [errW_none, errW_some] <;> rfl) | (simp [*, errW_none, errW_some] <;> rfl), by repeat (first | (with_reducible first | exact HB.out | apply below_alloc | apply pw_below_drewN | apply below_drew1) | exact HB.out)⟩

end Go.Proofs.YtnlakdpfkgjdaaaDoor.G

/- What May and Text come to. Conditions: bounds on the lists' lengths. -/
namespace Go.Proofs.YtnlakdpfkgjdaaaDoor.G
open Go.RowKit Go.Cav Go.Proofs.YtnlakdpfkgjdaaaDoorW.PrintWords Go.Proofs.YtnlakdpfkgjdaaaDoorW.PrintLast Go.Proofs.YtnlakdpfkgjdaaaDoorW.PrintMore
instance decMayF : ∀ (a : Int) (l : List S31), Decidable (mayF a l)
  | _, [] => .isTrue trivial
  | a, s :: r => by
    have := decMayF (s.f1 + 1) r
    show Decidable (a < s.f0 ∧ s.f0 ≤ s.f1 ∧ s.f1 ≤ 16383 ∧ mayF (s.f1 + 1) r)
    infer_instance
/-- may a list be? -/
def mayB (l : List S31) : Bool := decide (mayF (-1) l)
theorem may_loop (l : List S31) (hl : l.length ≤ 1000000000000) : ∀ n j k (a : Int), j + n = l.length → -2 ≤ a → a ≤ 16383 → spans_May.l0 (k + n + 1) a l (l.length : Int) (j : Int) = some (decide (mayF (a + 1) (l.drop j)))
  | 0, j, k, a, hj, h0, h1 => by
    rw [List.drop_of_length_le (by omega), spans_May.l0, if_neg (by omega)]
    exact congrArg some (decide_eq_true (p := mayF (a + 1) []) trivial).symm
  | n + 1, j, k, a, hj, h0, h1 => by
    have hlt : j < l.length := by omega
    have ew : wrap64 ((j : Int) + 1) = ((j + 1 : Nat) : Int) := by rw [w64 _ (by omega) (by omega)]; omega
    have ea : wrap64 (a + 1) = a + 1 := w64 _ (by omega) (by omega)
    have hm : mayF (a + 1) (l[j] :: l.drop (j + 1)) ↔ a + 1 < l[j].f0 ∧ l[j].f0 ≤ l[j].f1 ∧ l[j].f1 ≤ 16383 ∧ mayF (l[j].f1 + 1) (l.drop (j + 1)) := Iff.rfl
    rw [show k + (n + 1) + 1 = (k + n + 1) + 1 by omega, spans_May.l0, if_pos (by omega), if_pos (by omega), if_pos (by omega), rd_at l j hlt, ew, ea, List.drop_eq_getElem_cons hlt]
    by_cases c1 : l[j].f0 ≤ a + 1
    · rw [if_pos c1, decide_eq_false (fun h => by have := (hm.1 h).1; omega)]
    · rw [if_neg c1]
      by_cases c2 : l[j].f0 < 0
      · rw [if_pos c2, decide_eq_false (fun h => by have := (hm.1 h).1; omega)]
      · rw [if_neg c2]
        by_cases c3 : l[j].f1 < l[j].f0
        · rw [if_pos c3, decide_eq_false (fun h => by have := (hm.1 h).2.1; omega)]
        · rw [if_neg c3]
          by_cases c4 : l[j].f1 > 16383
          · rw [if_pos c4, decide_eq_false (fun h => by have := (hm.1 h).2.2.1; omega)]
          · rw [if_neg c4, may_loop l hl n (j + 1) k l[j].f1 (by omega) (by omega) (by omega)]
            congr 1
            exact decide_eq_decide.2 ⟨fun h => hm.2 ⟨by omega, by omega, by omega, h⟩, fun h => (hm.1 h).2.2.2⟩
theorem may_f (l : List S31) (hl : l.length ≤ 1000000000000) (k : Nat) : spans_May.f (k + l.length + 1) l = some (mayB l) := by
  have h := may_loop l hl l.length 0 k (-2) (by omega) (by omega) (by omega)
  rw [List.drop_zero] at h
  exact h
theorem may_any (A0 : Option Addr) (c0 : Nat) (l0 : List S31) (w : World) (hr0 : Kd.C k31 w A0 l0.length l0) (hc0 : l0.length ≤ c0) (h0 : l0.length ≤ 1000000000000) :
    Calls Tryd.prog 14 #[.slice A0 l0.length c0] w fun e w' => e = .returned (.bool (mayB l0)) ∧ Below w.heap.size w w' :=
  spans_May.calls (0 + l0.length + 1) A0 c0 l0 _ w hr0 hc0 (may_f l0 h0 0)
/-- a span's text -/
def oneS (s : S31) : ByteArray := if s.f1 > s.f0 then itoaB s.f0 ++ ((⟨#[45]⟩ : ByteArray) ++ itoaB s.f1) else itoaB s.f0
/-- a list's text -/
def textS (l : List S31) : ByteArray := joinB ((normS l).map oneS) ⟨#[44]⟩
theorem itoaB_le {n : Int} (h0 : 0 ≤ n) (h1 : n ≤ 16383) : (itoaB n).size ≤ 21 := itoaB_size n (by omega) (by omega)
theorem oneS_le (s : S31) (h0 : 0 ≤ s.f0) (h1 : s.f0 ≤ s.f1) (h2 : s.f1 ≤ 16383) : (oneS s).size ≤ 43 := by
  have a := itoaB_le h0 (by omega)
  have b := itoaB_le (n := s.f1) (by omega) h2
  unfold oneS
  split
  · rw [ByteArray.size_append, ByteArray.size_append]
    show _ + (1 + _) ≤ _; omega
  · omega
theorem join_le (sep : UInt8) (l : List (List UInt8)) (h : ∀ x ∈ l, x.length ≤ 43) : (Lib.join l [sep]).length ≤ 44 * l.length := by
  induction l with
  | nil => simp [Lib.join]
  | cons a l ih =>
    have ha := h a (by simp)
    have ih := ih (fun x hx => h x (List.mem_cons_of_mem _ hx))
    cases l with
    | nil => simp [Lib.join]; omega
    | cons b l => simp [Lib.join] at ih ⊢; omega
theorem mayF_in : ∀ {a : Int} {l : List S31}, mayF a l → -1 ≤ a → ∀ s ∈ l, 0 ≤ s.f0 ∧ s.f0 ≤ s.f1 ∧ s.f1 ≤ 16383
  | _, [], _, _, s, h => by cases h
  | a, t :: r, ⟨h1, h2, h3, h4⟩, h0, s, h => by
    rcases List.mem_cons.1 h with rfl | h
    · exact ⟨by omega, h2, h3⟩
    · exact mayF_in h4 (by omega) s h
theorem text_loop (l : List S31) (hl : l.length ≤ 1000000000) (hin : ∀ s ∈ l, 0 ≤ s.f0 ∧ s.f0 ≤ s.f1 ∧ s.f1 ≤ 16383) : ∀ n j k (out : List ByteArray), j + n = l.length → out = (l.take j).map oneS → spans_Text.l0 (k + n + 1) out l (l.length : Int) (j : Int) = some (joinB (l.map oneS) ⟨#[44]⟩)
  | 0, j, k, out, hj, ho => by
    rw [spans_Text.l0, if_neg (by omega)]
    rw [List.take_of_length_le (by omega)] at ho
    subst ho
    unfold strings_Join.f
    have hj43 : (Lib.join ((l.map oneS).map (·.data.toList)) [44]).length ≤ 140737488355328 := by
      have := join_le 44 ((l.map oneS).map (·.data.toList)) (by
        intro x hx
        rw [List.map_map] at hx
        obtain ⟨s, hs, rfl⟩ := List.mem_map.1 hx
        have h := hin s hs
        have := oneS_le s h.1 h.2.1 h.2.2
        show (oneS s).data.toList.length ≤ 43
        rw [Array.length_toList]; exact this)
      rw [List.length_map, List.length_map] at this
      omega
    rw [if_pos ⟨by rw [List.length_map]; exact hl, hj43⟩]
    rfl
  | n + 1, j, k, out, hj, ho => by
    have hlt : j < l.length := by omega
    have hs := hin l[j] (List.getElem_mem hlt)
    have ew : wrap64 ((j : Int) + 1) = ((j + 1 : Nat) : Int) := by rw [w64 _ (by omega) (by omega)]; omega
    have hol : out.length < 8796093022208 := by rw [ho, List.length_map, List.length_take]; omega
    have ei : ∀ m : Int, 0 ≤ m → m ≤ 16383 → strconv_Itoa.f m = some (itoaB m) := fun m h0 h1 => by unfold strconv_Itoa.f; rw [if_pos ⟨by omega, by omega⟩]
    have a := itoaB_le hs.1 (by omega)
    have b := itoaB_le (n := l[j].f1) (by omega) hs.2.2
    rw [show k + (n + 1) + 1 = (k + n + 1) + 1 by omega, spans_Text.l0, if_pos (by omega), if_pos (by omega), if_pos (by omega), rd_at l j hlt, ew, ei _ hs.1 (by omega), ei _ (by omega) hs.2.2]
    have ho2 : (l.take (j + 1)).map oneS = out ++ [oneS l[j]] := by rw [List.take_succ_eq_append_getElem hlt, List.map_append, ← ho]; rfl
    simp only [Option.bind_some]
    by_cases c : l[j].f1 > l[j].f0
    · rw [if_pos c, if_pos (by omega), if_pos (by rw [ByteArray.size_append]; show _ + (1 + _) ≤ _; omega), if_pos hol]
      refine text_loop l hl hin n (j + 1) k _ (by omega) ?_
      rw [ho2]; unfold oneS; rw [if_pos c]
    · rw [if_neg c, if_pos hol]
      refine text_loop l hl hin n (j + 1) k _ (by omega) ?_
      rw [ho2]; unfold oneS; rw [if_neg c]
theorem text_f (l : List S31) (hl : l.length ≤ 1000000000) (k : Nat) : spans_Text.f (k + l.length + 1) l = some (textS l) := by
  have hn := normS_len l
  unfold spans_Text.f
  rw [norm_f l hl k, Option.bind_some]
  have h := text_loop (normS l) (by omega) (mayF_in (norm_spec l).1 (by omega)) (normS l).length 0 (k + l.length - (normS l).length) [] (by omega) (by simp)
  rw [show k + l.length - (normS l).length + (normS l).length + 1 = k + l.length + 1 by omega] at h
  exact h
theorem text_any (A0 : Option Addr) (c0 : Nat) (l0 : List S31) (w : World) (hr0 : Kd.C k31 w A0 l0.length l0) (hc0 : l0.length ≤ c0) (h0 : l0.length ≤ 1000000000) (hW : Wd w) :
    Calls Tryd.prog 22 #[.slice A0 l0.length c0] w fun e w' => e = .returned (.string (textS l0)) ∧ Below w.heap.size w w' :=
  spans_Text.calls (0 + l0.length + 1) A0 c0 l0 _ w hr0 hc0 (text_f l0 h0 0) hW
end Go.Proofs.YtnlakdpfkgjdaaaDoor.G

/- The library's Grow and Concat of two rows of spans. Condition: a bound on the lists' lengths. -/
namespace Go.Proofs.YtnlakdpfkgjdaaaDoor.G
open Go.RowKit Go.Cav Go.Proofs.YtnlakdpfkgjdaaaDoorW.PrintWords Go.Proofs.YtnlakdpfkgjdaaaDoorW.PrintLast Go.Proofs.YtnlakdpfkgjdaaaDoorW.PrintMore
attribute [local go_sem] Oper.semAt_some
theorem R_cut0 {α : Type} {d : Kd α} {e base n c : Nat} {ok : Nat → Prop} {w : World} {A : Option Addr} {xs : List α} (h : d.R e w base ok (.slice A n c) xs) : d.R e w base ok (.slice A 0 c) [] := by
  obtain ⟨h0, inner, ho, _⟩ := h
  refine ⟨fun k hk => h0 k (by cases A with | none => cases hk | some a => exact hk), [], ?_, Reps.none _ _⟩
  rcases ho.2 with ⟨e1, _⟩ | ⟨g, cap, cur, e1, hb, hg, hn, hm, hs, _⟩
  · cases e1
    exact ⟨by simp, .inl ⟨rfl, rfl⟩⟩
  · cases e1
    exact ⟨by simp, .inr ⟨g, c, cur, rfl, hb, hg, Nat.zero_le _, hm, hs, by simp⟩⟩
set_option maxRecDepth 100000 in
set_option maxHeartbeats 4000000 in
theorem grow_calls (n : Nat) (hn : n ≤ 2000000000) (w : World) : Calls Tryd.prog 54 #[.slice none 0 0, .int .i64 (n : Int)] w fun e w' => ∃ v, e = .returned v ∧ Kd.R k31 31 w' w.heap.size (fun _ => True) v [] ∧ Below w.heap.size w w' := by
  by_cases h : 0 < n
  · have h1 : (0 : Int) < (n : Int) := by omega
    have h2 : ¬ (n : Int) < 0 := by omega
    go_enter Tryd.func54, Tryd.ntmps54
    have hz0 : ((n : Int)).toNat = n := Int.toNat_natCast n
    have HZ := Lib.hid hz0
    clear hz0
    go_wp2_with (at_builtin; go_loud (refine Kd.R_append_zeros k31 (w0 := w) w.heap.size rfl (.tmp 20) (.tmp 21) 23 3 31 (.agg #[(.int .i64 0), (.int .i64 0)]) 16 rfl Tryd.underlying23 Tryd.underlying3 info31 rfl (by decide) (by omega) (.slice none 0 0) [] z31 (n : Int) (fun _ => True) rfl rfl (k31_mkM _ _ _ z31) (fun _ _ => trivial) (Kd.R_nil _ _ _ _ _) (by omega) (Below.refl _ _) (Nat.le_refl _) (by rw [HZ.out]; simp; omega) ?_))
    intro v1 w1 hR hB _ _
    obtain ⟨A1, c1, rfl⟩ := Kd.R_slice hR
    have HR := Lib.hid hR
    have HB := Lib.hid hB
    clear hR hB
    have HR0 := Lib.hid (R_cut0 HR.out)
    generalize (([] : List S31) ++ List.replicate (n : Int).toNat z31).length = m at HR ⊢
    go_wp2
    go_ret
    exact ⟨_, rfl, HR0.out, HB.out⟩
  · obtain rfl : n = 0 := by omega
    go_enter Tryd.func54, Tryd.ntmps54
    go_wp2
    go_ret
    exact ⟨_, rfl, Kd.R_nil _ _ _ _ _, Below.refl _ _⟩
set_option maxRecDepth 100000 in
set_option maxHeartbeats 4000000 in
theorem concat_calls (g : Nat) (A0 : Option Addr) (c0 : Nat) (x : List S31) (A1 : Option Addr) (c1 : Nat) (y : List S31) (w : World) (hc0 : w.cell? ⟨g, 0, none⟩ = some (.slice A0 x.length c0)) (hc1 : w.cell? ⟨g, 1, none⟩ = some (.slice A1 y.length c1))
    (hx : Kd.C k31 w A0 x.length x) (hy : Kd.C k31 w A1 y.length y) (h0 : x.length ≤ 1000000000) (h1 : y.length ≤ 1000000000) :
    Calls Tryd.prog 37 #[.slice (some ⟨g, 0, none⟩) 2 2] w fun e w' => ∃ v, e = .returned v ∧ Kd.R k31 31 w' w.heap.size (fun _ => True) v (x ++ y) ∧ Below w.heap.size w w' := by
  have hG := grow_calls (x.length + y.length) (by omega) w
  rw [show ((x.length + y.length : Nat) : Int) = (x.length : Int) + (y.length : Int) by simp] at hG
  have HX := Lib.hid hx
  have HY := Lib.hid hy
  have HC0 := Lib.hid hc0
  have HC1 := Lib.hid hc1
  clear hx hy hc0 hc1
  go_enter Tryd.func37, Tryd.ntmps37
  go_wp2
  go_loop [3, 11] (fun s i => (i = .int .i64 0 ∧ s = .int .i64 0) ∨ (i = .int .i64 1 ∧ s = .int .i64 (x.length : Int)) ∨ (i = .int .i64 2 ∧ s = .int .i64 ((x.length : Int) + (y.length : Int)))) (fun _ i => 2 - (intOf i).toNat)
  case atStart => exact .inl ⟨rfl, rfl⟩
  case round =>
    have hadd : (⟨g, 0, none⟩ : Addr).add 1 = ⟨g, 1, none⟩ := by simp [Addr.add]
    rcases hrel with ⟨rfl, rfl⟩ | ⟨rfl, rfl⟩ | ⟨rfl, rfl⟩
    · have cc := HC0.out
      go_wp2
      exact ⟨.inr (.inl ⟨rfl, rfl⟩), by decide⟩
    · have cc := HC1.out
      clear hadd
      go_wp2
      exact ⟨.inr (.inr ⟨rfl, rfl⟩), by decide⟩
    · go_wp2_with fail
      refine hG.mono ?_
      rintro e w1 ⟨v1, rfl, hR1, hB1⟩
      have HR1 := Lib.hid hR1
      have HB1 := Lib.hid hB1
      clear hG hR1 hB1 hadd
      go_wp2
      go_loopw [6, 27] (fun v i wr => Hid (Below w.heap.size w wr) ∧ ((i = .int .i64 0 ∧ Hid (Kd.R k31 31 wr w.heap.size (fun _ => True) v [])) ∨ (i = .int .i64 1 ∧ Hid (Kd.R k31 31 wr w.heap.size (fun _ => True) v x)) ∨ (i = .int .i64 2 ∧ Hid (Kd.R k31 31 wr w.heap.size (fun _ => True) v (x ++ y))))) (fun _ i _ => 2 - (intOf i).toNat)
      case atStart => exact ⟨HB1, .inl ⟨rfl, HR1⟩⟩
      case round =>
        obtain ⟨HB, ⟨rfl, HR⟩ | ⟨rfl, HR⟩ | ⟨rfl, HR⟩⟩ := hrel
        · have cc := (Stir.of_below HB.out (fun _ => False)).cell HC0.out (fun e => e)
          have hX := Lib.hid (Kd.C_below HX.out HB.out)
          go_wp2_with (at_builtin; go_loud (refine Kd.R_append_rows k31 (Rr := Kd.K k31 wr) (w0 := w) w.heap.size rfl _ _ 23 31 (.agg #[(.int .i64 0), (.int .i64 0)]) 16 rfl Tryd.underlying23 info31 rfl (by decide) (by decide) _ [] x A0 x.length c0 (fun _ => True) (fun _ => False) rfl rfl HR.out hX.out (fun p cs hp => ?aK) (fun _ e => e.elim) (fun _ _ => trivial) HB.out HB.out.size (by simp; omega) ?_; (case aK => obtain rfl := k31_open hp; exact k31_mkM _ _ _ p)))
          intro v2 w2 hR2 hB2 _ _
          have HR2 := Lib.hid hR2
          have HB2 := Lib.hid hB2
          clear hR2 hB2
          go_wp2
          exact ⟨⟨HB2, .inr (.inl ⟨rfl, HR2⟩)⟩, by decide⟩
        · have cc := (Stir.of_below HB.out (fun _ => False)).cell HC1.out (fun e => e)
          have hY := Lib.hid (Kd.C_below HY.out HB.out)
          go_wp2_with (at_builtin; go_loud (refine Kd.R_append_rows k31 (Rr := Kd.K k31 wr) (w0 := w) w.heap.size rfl _ _ 23 31 (.agg #[(.int .i64 0), (.int .i64 0)]) 16 rfl Tryd.underlying23 info31 rfl (by decide) (by decide) _ x y A1 y.length c1 (fun _ => True) (fun _ => False) rfl rfl HR.out hY.out (fun p cs hp => ?aK) (fun _ e => e.elim) (fun _ _ => trivial) HB.out HB.out.size (by omega) ?_; (case aK => obtain rfl := k31_open hp; exact k31_mkM _ _ _ p)))
          intro v2 w2 hR2 hB2 _ _
          have HR2 := Lib.hid hR2
          have HB2 := Lib.hid hB2
          clear hR2 hB2
          go_wp2
          exact ⟨⟨HB2, .inr (.inr ⟨rfl, HR2⟩)⟩, by decide⟩
        · go_wp2
          go_ret
          exact ⟨_, rfl, HR.out, HB.out⟩
end Go.Proofs.YtnlakdpfkgjdaaaDoor.G

/- What the iterator over a list's gaps hands on, at a body that grows one row behind a box. Conditions: a bound on the list's length. -/
namespace Go.Proofs.YtnlakdpfkgjdaaaDoor.G
open Go.RowKit Go.Shelf Go.Cav Go.Proofs.YtnlakdpfkgjdaaaDoorW.PrintWords Go.Proofs.YtnlakdpfkgjdaaaDoorW.PrintLast Go.Proofs.YtnlakdpfkgjdaaaDoorW.PrintMore
attribute [local go_sem] Oper.semAt_some
abbrev encS (s : S31) : Array Value := #[.agg #[.int .i64 s.f0, .int .i64 s.f1]]
/-- one yield -/
abbrev Yields {α : Type} (B n l : Nat) (enc : α → Array Value) (L : List α) (J Jx : List α → World → Prop) : Prop :=
  ∀ pre x W1, J pre W1 → pre.length < L.length → YieldAt Fence.wide (n - 1) Tryd.prog l (enc x) W1 fun e W' =>
    (e = .returned (.bool true) ∧ J (pre ++ [x]) W' ∧ KpB B W1 W') ∨ (e = .returned (.bool false) ∧ Jx (pre ++ [x]) W')
theorem gapsF_cons (a : Int) (s : S31) (r : List S31) : gapsF a (s :: r) = (if a < s.f0 then [⟨a, s.f0 - 1⟩] else []) ++ gapsF (s.f1 + 1) r := by
  rw [gapsF]; split <;> simp
set_option maxRecDepth 100000 in
set_option maxHeartbeats 4000000 in
theorem gaps_in (B Bl n : Nat) (hn : 1 ≤ n) (l : Nat) (A : Option Addr) (c : Nat) (xs : List S31) (hxs : xs.length ≤ 1000000000)
    (J Jx : List S31 → World → Prop) (W : World) (hJ : ∀ s X Y, J s X → Below X.heap.size X Y → J s Y)
    (hY : Yields B n l encS (gapsF 0 (normS xs)) J Jx)
    (hB : B < W.heap.size) (hfree : ownAt B W = none) (hbl : W.cell? ⟨Bl, 0, none⟩ = some (.slice A xs.length c)) (hC : Kd.C k31 W A xs.length xs) (hcl : xs.length ≤ c) (h0 : J [] W) :
    CallsIn Fence.wide n Tryd.prog 57 #[.func (.yield l) #[] #[], .pointer (some ⟨Bl, 0, none⟩)] W fun e W' => (∃ v, e = .returned v) ∧
      ((∃ ys, ys = gapsF 0 (normS xs) ∧ J ys W') ∨ (∃ pre, pre <+: gapsF 0 (normS xs) ∧ Jx pre W')) := by
  have hN := norm_any A c xs W hC hcl hxs
  have hln := normS_len xs
  have hmay := mayF_in (norm_spec xs).1 (Int.le_refl _)
  refine callsIn_of_wp Tryd.func57 rfl trivial ?_ rfl
  simp only [Tryd.ntmps57, List.size_toArray, List.length_cons, List.length_nil, Nat.reduceAdd, Nat.reduceSub, Array.replicate_succ, Array.replicate_zero, List.push_toArray, List.append_toArray, List.nil_append, List.cons_append]
  generalize normS xs = X at *
  gi_wp2_with fail
  refine ⟨trivial, (callsIn_wide.2 hN).mono ?_⟩
  rintro e w1 ⟨v1, rfl, hR, hb1⟩
  have hrow := rowV_of hR
  have hfr : Free B w1 W.heap.size w1.heap.size := fun k hk => by rw [ownAt_below hb1 hB, hfree] at hk; cases hk
  have hJ1 := hJ _ _ _ h0 hb1
  have hsz := hb1.size
  obtain ⟨A1, c1, rfl, hc1, hce⟩ := hrow
  have HROW : Hid (RowV w1 W.heap.size w1.heap.size (.slice A1 X.length c1) X) := Lib.hid ⟨A1, c1, rfl, hc1, hce⟩
  have HFR := Lib.hid hfr
  have HM := Lib.hid hmay
  clear hN hR hfr hmay hc1 hce h0 hC hbl
  gi_wp2
  gi_loopw [3, 9] (fun a i wr => ∃ k : Nat, ∃ a' : Int, ∃ pre, k ≤ X.length ∧ a = .int .i64 a' ∧ i = .int .i64 k ∧ 0 ≤ a' ∧ a' ≤ 16384 ∧ Hid (pre ++ gapsF a' (X.drop k) = gapsF 0 X) ∧ J pre wr ∧ w1.heap.size ≤ wr.heap.size ∧ Hid (RowV wr W.heap.size w1.heap.size (.slice A1 X.length c1) X) ∧ Hid (Free B wr W.heap.size w1.heap.size)) (fun _ i _ => X.length - (intOf i).toNat)
  case atStart => exact ⟨0, 0, [], Nat.zero_le _, rfl, rfl, by decide, by decide, Lib.hid (by rw [List.drop_zero]; rfl), hJ1, Nat.le_refl _, HROW, HFR⟩
  case round =>
    obtain ⟨k, a, pre, hk, rfl, rfl, ha0, ha1, HT, hJs, hws, HR, HF⟩ := hrel
    clear HROW HFR hJ1
    by_cases hlt : k < X.length
    · have hx := HM.out X[k] (List.getElem_mem hlt)
      obtain ⟨g, o, cc, hA, hg1, hg2, q1, q2⟩ := HR.out.at hlt
      cases hA
      have HT2 : Hid (pre ++ ((if a < X[k].f0 then [⟨a, X[k].f0 - 1⟩] else []) ++ gapsF (X[k].f1 + 1) (X.drop (k + 1))) = gapsF 0 X) := Lib.hid (by rw [← HT.out, List.drop_eq_getElem_cons hlt, gapsF_cons])
      clear HT
      generalize X[k] = s at *
      have hwr : Hid (wr.heap.size + 1 = (wr.alloc (.cells #[.int .i64 s.f0, .int .i64 s.f1] 31)).heap.size) := Lib.hid (by simp)
      have hba : Below wr.heap.size wr (wr.alloc (.cells #[.int .i64 s.f0, .int .i64 s.f1] 31)) := (Below.refl _ wr).alloc (Nat.le_refl _) _
      have hJa := hJ _ _ _ hJs hba
      have HRa := Lib.hid (HR.out.below hba)
      have HFa := Lib.hid (HF.out.below hba (by omega))
      have e1 : wrap64 (s.f0 - 1) = s.f0 - 1 := w64 _ (by omega) (by omega)
      have e2 : wrap64 (s.f1 + 1) = s.f1 + 1 := w64 _ (by omega) (by omega)
      have hkl : k < xs.length := by omega
      have HB := Lib.hid hba
      clear hba hJs HR
      by_cases ca : a < s.f0
      · rw [if_pos ca] at HT2
        have hd : decide (a < s.f0) = true := decide_eq_true ca
        obtain ⟨fn, tmps, assign, body, hy, hR⟩ := hY pre ⟨a, s.f0 - 1⟩ _ hJa (by rw [← HT2.out]; simp)
        try dsimp only at hy hR
        gi_wp2_with fail
        refine hR.mono ?_
        rintro e W3 (⟨rfl, hJ3, hk3⟩ | ⟨rfl, hJx3⟩)
        · have cx : W3.cell? ⟨wr.heap.size, 1, none⟩ = some (.int .i64 s.f1) := HF.out.new (by omega) hk3 (by unfold World.cell?; rw [heap_alloc_new]; rfl)
          have hs3 := hk3.size
          have HR3 := Lib.hid (HRa.out.keep hk3 hB HFa.out)
          have HF3 := Lib.hid (HFa.out.keep hk3 (by rw [← hwr.out]; omega))
          clear hR hy hk3 hd
          gi_wp2
          go_roundw
          case rel => exact ⟨k + 1, s.f1 + 1, _, by omega, rfl, by simp, by omega, by omega, Lib.hid (by rw [← HT2.out]; simp), hJ3, by rw [← hwr.out] at hs3; omega, HR3, HF3⟩
          case measure => simp [intOf]; omega
        · clear hR hy hd
          gi_wp2
          refine bodyPost_ret (results_none rfl _ _ _) rfl ?_
          exact ⟨⟨_, rfl⟩, .inr ⟨_, ⟨gapsF (s.f1 + 1) (X.drop (k + 1)), by rw [← HT2.out]; simp⟩, hJx3⟩⟩
      · rw [if_neg ca] at HT2
        have hd : decide (a < s.f0) = false := decide_eq_false ca
        have cx : (wr.alloc (.cells #[.int .i64 s.f0, .int .i64 s.f1] 31)).cell? ⟨wr.heap.size, 1, none⟩ = some (.int .i64 s.f1) := by unfold World.cell?; rw [heap_alloc_new]; rfl
        gi_wp2
        refine ⟨fun f h => (by cases h), ?_⟩
        gi_wp2
        go_roundw
        case rel => exact ⟨k + 1, s.f1 + 1, pre, by omega, rfl, by simp, by omega, by omega, Lib.hid (by rw [← HT2.out]; simp), hJa, by rw [← hwr.out]; omega, HRa, HFa⟩
        case measure => simp [intOf]; omega
    · obtain rfl : k = X.length := by omega
      have HT2 : Hid (pre ++ gapsF a [] = gapsF 0 X) := Lib.hid (by rw [← HT.out, List.drop_of_length_le (Nat.le_refl _)])
      clear HT HM
      by_cases ca : a ≤ 16383
      · have hd : decide (a ≤ 16383) = true := decide_eq_true ca
        have hg : gapsF a [] = [⟨a, 16383⟩] := by rw [gapsF, if_pos ca]
        rw [hg] at HT2
        obtain ⟨fn, tmps, assign, body, hy, hR⟩ := hY pre ⟨a, 16383⟩ _ hJs (by rw [← HT2.out]; simp)
        try dsimp only at hy hR
        gi_wp2_with fail
        refine hR.mono ?_
        rintro e W3 (⟨rfl, hJ3, hk3⟩ | ⟨rfl, hJx3⟩)
        · clear hR hy hk3 hd
          gi_wp2
          go_end0
          exact ⟨⟨_, rfl⟩, .inl ⟨_, HT2.out, hJ3⟩⟩
        · clear hR hy hd
          gi_wp2
          go_end0
          exact ⟨⟨_, rfl⟩, .inr ⟨_, ⟨[], by rw [← HT2.out, List.append_nil]⟩, hJx3⟩⟩
      · have hd : decide (a ≤ 16383) = false := decide_eq_false ca
        have hg : gapsF a [] = [] := by rw [gapsF, if_neg ca]
        rw [hg, List.append_nil] at HT2
        gi_wp2
        go_end0
        first
          | exact ⟨⟨_, rfl⟩, .inl ⟨_, HT2.out, hJs⟩⟩
          | exact ⟨⟨_, rfl⟩, .inl (HT2.out ▸ hJs)⟩
end Go.Proofs.YtnlakdpfkgjdaaaDoor.G

/- A region that draws its order, inside a fence: reads and quiet calls first, in the text's order, then the rest one behind the other. A law of no program, over the kit's laws of orders. No conditions. -/
namespace Go.Cav
open Go
variable {F : Fence} {m : Nat} {P : Program} {ops : Array Oper} {md : Region.Mode} {w : World} {Q : Exit → Act → World → Prop}

/-- an operation that leaves the world alone, inside a fence that lets all pass -/
theorem wpIn_of_still {o : Oper} {a : Act} {K : Act → Prop} {K' : Act → World → Prop} (hro : F.round = none) (hF : ∀ f, F.fn f) (hd : F.depth.isSome = true → 1 ≤ m)
    (hC : ∀ f args w X, Calls P f args w X → CallsIn F (m - 1) P f args w X) (h : ∀ a, K a → K' a w) (hh : o.still P a w K) : o.wpIn F m P a w K' Q := by
  unfold Oper.still at hh
  unfold Oper.wpIn
  refine ⟨fun f _ => hF f, ?_⟩
  rw [hro, Oper.semAt_none]
  generalize (execOp a.eval o).run P w = r at *
  cases r with
  | ok x w' =>
    cases x <;> simp only [Oper.stillUpon] at hh <;> simp only [Oper.uponIn]
    case enter f args =>
      obtain ⟨rfl, v, hc, hn⟩ := hh
      exact ⟨hd, (hC _ _ _ _ hc).mono fun e w'' ⟨he, hw⟩ => by subst he; subst hw; exact h _ hn⟩
    all_goals (obtain ⟨rfl, h2⟩ := hh; exact h _ h2)
  | halt x w' => simp only [Oper.stillUpon] at hh
theorem wpOpIn_of_still {i : Nat} {a : Act} {K : Act → Prop} {K' : Act → World → Prop} (hro : F.round = none) (hF : ∀ f, F.fn f) (hd : F.depth.isSome = true → 1 ≤ m)
    (hC : ∀ f args w X, Calls P f args w X → CallsIn F (m - 1) P f args w X) (h : ∀ a, K a → K' a w) (hh : stOp P ops w i K a) : wpOpIn F m P ops Q i K' a w := by
  unfold stOp at hh
  unfold wpOpIn
  split
  · rename_i ho; simp only [ho] at hh; exact h _ hh
  · rename_i o ho
    simp only [ho] at hh
    split
    · rename_i hw; simp only [hw, if_true] at hh; exact wpIn_of_still hro hF hd hC h hh
    · rename_i hw; simp only [hw] at hh; exact ⟨fun f _ => hF f, h _ hh⟩
theorem wpAnyIn_of_head {n g : Nat} {L : Array Bool → Act → Prop} (hro : F.round = none) (hF : ∀ f, F.fn f) (hd : F.depth.isSome = true → 1 ≤ m)
    (hC : ∀ f args w X, Calls P f args w X → CallsIn F (m - 1) P f args w X) (hL : ∀ listed a, L listed a → wpAnyIn F m P md ops Q g listed a w) :
    ∀ (f : Nat) (listed : Array Bool) (a : Act), wpAnyL P md ops w n L f listed a → wpAnyIn F m P md ops Q (f + g) listed a w
  | 0, listed, a, h => by rw [Nat.zero_add]; exact hL _ _ h
  | f + 1, listed, a, h => by
    rw [show f + 1 + g = (f + g) + 1 by omega]
    exact ⟨fun h0 => absurd h0 h.1, fun i hi => wpOpIn_of_still hro hF hd hC (fun a' h' => wpAnyIn_of_head hro hF hd hC hL f _ a' h') (h.2 i hi).2⟩
theorem wpAnyIn_of_seq : ∀ (l : List Oper) (k : Nat) (listed : Array Bool) (a : Act) (w : World), (∀ j, l[j]? = ops[k + j]?) →
    Region.seqB md ops l.length k listed = true → wpListIn F m P ops Q l a w → wpAnyIn F m P md ops Q l.length listed a w
  | [], _, _, _, _, _, hB, h => ⟨by simpa [Region.seqB] using hB, h⟩
  | o :: l, k, listed, a, w, hl, hB, h => by
    have h0 : ops[k]? = some o := by simpa using (hl 0).symm
    simp only [List.length_cons, Region.seqB, Bool.and_eq_true, decide_eq_true_eq] at hB
    refine ⟨fun h1 => (by rw [hB.1] at h1; cases h1), fun i hi => ?_⟩
    rw [hB.1] at hi
    obtain rfl : i = k := by simpa using hi
    have hw : wpOpIn F m P ops Q i (wpListIn F m P ops Q l) a w := by unfold wpOpIn; simp only [h0]; exact h
    exact wpOpIn_mono (fun a' w' h' => wpAnyIn_of_seq l (i + 1) _ a' w' (fun j => by have := hl (j + 1); simpa [Nat.add_assoc, Nat.add_comm 1 j] using this) hB.2 h') hw
theorem wpIn_region_still_tail {id : Nat} {a : Act} {l : List Oper} (n : Nat) (hro : F.round = none) (hF : ∀ f, F.fn f) (hd : F.depth.isSome = true → 1 ≤ m)
    (hC : ∀ f args w X, Calls P f args w X → CallsIn F (m - 1) P f args w X) (hm : P.follows .mixedOrders = true) (hB : Region.lexTailB .any l.toArray n = true)
    (h : wpStill P l.toArray w.drew (fun a' => wpListIn F m P l.toArray Q (l.drop n) a' w.drew) (l.take n) a) : (Code.region id l.toArray true).wpIn F m P Q a w := by
  simp only [Region.lexTailB, Bool.and_eq_true, decide_eq_true_eq] at hB
  obtain ⟨⟨⟨⟨hsel, hn⟩, hs⟩, hc⟩, hlex⟩ := hB
  have hn' : n < l.length := by simpa using hn
  have htl : (l.take n).length = n := by rw [List.length_take]; omega
  have hdl : (l.drop n).length = l.toArray.size - n := by rw [List.length_drop]; rfl
  have inv0 : HeadInv .any l.toArray n (Array.replicate l.toArray.size false) :=
    ⟨by simp, fun j oj _ hl => (by rw [getD_replicate_false] at hl; cases hl), fun t _ ht => getD_in (by simpa using ht) (getD_replicate_false _ _)⟩
  have H := wpAnyL_lex (md := .any) (g := l.toArray.size - n) hsel hs hc hn (l.take n) 0 _ a (fun j hj => by
    have hj' : j < n := by rw [htl] at hj; exact hj
    simp [hj']) (by simpa using htl) inv0 (by rw [htl]; exact hlex) h
  refine wpIn_region_any hm ?_
  have key := wpAnyIn_of_head (F := F) (m := m) (Q := Q) (g := l.toArray.size - n) hro hF hd hC (fun listed a' hL => by
    have := wpAnyIn_of_seq (F := F) (m := m) (md := .any) (Q := Q) (l.drop n) n listed a' w.drew (fun j => by simp [List.getElem?_drop]) (by rw [hdl]; exact hL.1) hL.2
    rwa [hdl] at this) _ _ _ H
  rw [htl, show n + (l.toArray.size - n) = l.toArray.size by omega] at key
  exact key
end Go.Cav

/- What the iterator over the pairs of two lists that meet hands on, at a body that grows one row behind a box. Conditions: bounds on the lists' lengths. -/
namespace Go.Proofs.YtnlakdpfkgjdaaaDoor.G
open Go.RowKit Go.Shelf Go.Cav Go.Proofs.YtnlakdpfkgjdaaaDoorW.PrintWords Go.Proofs.YtnlakdpfkgjdaaaDoorW.PrintLast Go.Proofs.YtnlakdpfkgjdaaaDoorW.PrintMore
attribute [local go_sem] Oper.semAt_some
abbrev encP (p : S31 × S31) : Array Value := #[.agg #[.int .i64 p.1.f0, .int .i64 p.1.f1], .agg #[.int .i64 p.2.f0, .int .i64 p.2.f1]]
theorem RowV.mono {W : World} {N M N' M' : Nat} {v : Value} {xs : List S31} (h : RowV W N M v xs) (hN : N' ≤ N) (hM : M ≤ M') : RowV W N' M' v xs := by
  obtain ⟨A, c, rfl, h1, h2⟩ := h
  refine ⟨A, c, rfl, h1, fun hx => ?_⟩
  obtain ⟨g, o, rfl, h3, h4, h5⟩ := h2 hx
  exact ⟨g, o, rfl, by omega, by omega, h5⟩
def lenV : Value → Nat
  | .slice _ n _ => n
  | _ => 0
theorem pairsS_nil (k : Nat) (y : List S31) : pairsS k [] y = [] := by cases k <;> rfl
theorem pairsS_nil2 (k : Nat) (x : List S31) : pairsS k x [] = [] := by cases k with
  | zero => rfl
  | succ k => cases x <;> rfl
theorem pairsS_cons (k : Nat) (s : S31) (x : List S31) (u : S31) (y : List S31) : pairsS (k + 1) (s :: x) (u :: y) = (if max s.f0 u.f0 ≤ min s.f1 u.f1 then [(s, u)] else []) ++ (if s.f1 < u.f1 then pairsS k x (u :: y) else pairsS k (s :: x) y) := by
  rw [pairsS]; split <;> simp
/-- where a slice begins behind its first element -/
def tlo (o d : Nat) : Nat := if d = 1 then o else o + 2
theorem run_drop2 (g o n d : Nat) (h : n + 1 ≤ d) (W : World) :
    (Instr.slice 23 (.slice (some ⟨g, o, none⟩) (n + 1) d) (some (.int .i64 1)) none none).run Tryd.prog W = .ok (.slice (some ⟨g, tlo o d, none⟩) n (d - 1)) W := by
  rw [run_slice_l W 23 (some ⟨g, o, none⟩) (n + 1) d (by kernel_rfl) .i64 1 (by omega) (by omega)]
  have hs : (sizeOf (Tryd.prog.elem 23)).run Tryd.prog W = .ok 2 W := by kernel_rfl
  rw [hs]
  simp only [Result.andThen, sliced, tlo, Int.toNat_one, Option.map_some, Nat.add_sub_cancel]
  split <;> rfl
set_option maxRecDepth 100000 in
set_option maxHeartbeats 4000000 in
theorem pairs_in (B Ba Bb n : Nat) (hn : 1 ≤ n) (l : Nat) (A : Option Addr) (c : Nat) (xs : List S31) (A2 : Option Addr) (c2 : Nat) (ys : List S31) (hxs : xs.length ≤ 1000000000) (hys : ys.length ≤ 1000000000)
    (J Jx : List (S31 × S31) → World → Prop) (W : World) (hJ : ∀ s X Y, J s X → Below X.heap.size X Y → J s Y)
    (hY : Yields B n l encP (pairsS ((normS xs).length + (normS ys).length) (normS xs) (normS ys)) J Jx)
    (hB : B < W.heap.size) (hfree : ownAt B W = none) (hba : W.cell? ⟨Ba, 0, none⟩ = some (.slice A xs.length c)) (hC : Kd.C k31 W A xs.length xs) (hcl : xs.length ≤ c)
    (hbb : W.cell? ⟨Bb, 0, none⟩ = some (.slice A2 ys.length c2)) (hC2 : Kd.C k31 W A2 ys.length ys) (hcl2 : ys.length ≤ c2) (h0 : J [] W) :
    CallsIn Fence.wide n Tryd.prog 58 #[.func (.yield l) #[] #[], .pointer (some ⟨Ba, 0, none⟩), .pointer (some ⟨Bb, 0, none⟩)] W fun e W' => (∃ v, e = .returned v) ∧
      ((∃ zs, zs = pairsS ((normS xs).length + (normS ys).length) (normS xs) (normS ys) ∧ J zs W') ∨ (∃ pre, pre <+: pairsS ((normS xs).length + (normS ys).length) (normS xs) (normS ys) ∧ Jx pre W')) := by
  have hNa : ∀ w', Below W.heap.size W w' → _ := fun w' hb => norm_any A c xs w' (Kd.C_below hC hb) hcl hxs
  have hNb : ∀ w', Below W.heap.size W w' → _ := fun w' hb => norm_any A2 c2 ys w' (Kd.C_below hC2 hb) hcl2 hys
  have hln := normS_len xs
  have hln2 := normS_len ys
  have hmay := mayF_in (norm_spec xs).1 (Int.le_refl _)
  have hmay2 := mayF_in (norm_spec ys).1 (Int.le_refl _)
  refine callsIn_of_wp Tryd.func58 rfl trivial ?_ rfl
  simp only [Tryd.ntmps58, List.size_toArray, List.length_cons, List.length_nil, Nat.reduceAdd, Nat.reduceSub, Array.replicate_succ, Array.replicate_zero, List.push_toArray, List.append_toArray, List.nil_append, List.cons_append]
  generalize normS xs = X at *
  generalize normS ys = Y at *
  gi_wp2_with fail
  gi_cut [4, 5] from 6 (fun v4 v5 wx => Below W.heap.size W wx ∧ RowV wx W.heap.size wx.heap.size v4 X ∧ RowV wx W.heap.size wx.heap.size v5 Y)
  case first =>
    have hd0 : Below W.heap.size W W.drew := ((Stir.refl (fun _ => False) W).drew).below (Nat.le_refl _) (fun _ e => e.elim)
    have hbad : W.drew.cell? ⟨Ba, 0, none⟩ = some (.slice A xs.length c) := hba
    have hbbd : W.drew.cell? ⟨Bb, 0, none⟩ = some (.slice A2 ys.length c2) := hbb
    have hNa0 := hNa _ hd0
    have hNb0 := hNb _ hd0
    have HD0 := Lib.hid hd0
    clear hd0
    gi_region_with (first
      | ((with_reducible refine And.intro ?_ ?_); (· exact trivial); (with_reducible refine (callsIn_wide.2 hNa0).mono ?_); rintro e w1 ⟨v1, rfl, hR1, hb1⟩; have qb1 := (Stir.of_below hb1 (fun _ => False)).cell hbbd (fun e => e); have HR1 := Lib.hid hR1; clear hR1)
      | ((with_reducible refine And.intro ?_ ?_); (· exact trivial); (with_reducible refine (callsIn_wide.2 hNb0).mono ?_); rintro e w2 ⟨v2, rfl, hR2, hb2⟩; have qa2 := (Stir.of_below hb2 (fun _ => False)).cell hbad (fun e => e); have HR2 := Lib.hid hR2; clear hR2)
      | ((with_reducible refine And.intro ?_ ?_); (· exact trivial); (with_reducible refine (callsIn_wide.2 (hNa _ (HD0.out.trans (hb2.mono HD0.out.size)))).mono ?_); rintro e w1 ⟨v1, rfl, hR1, hb1⟩)
      | ((with_reducible refine And.intro ?_ ?_); (· exact trivial); (with_reducible refine (callsIn_wide.2 (hNb _ (HD0.out.trans (hb1.mono HD0.out.size)))).mono ?_); rintro e w2 ⟨v2, rfl, hR2, hb2⟩))
    all_goals (
      gi_wp2_with fail
      gi_meet
      first
        | exact ⟨(HD0.out.trans hb1).trans (hb2.mono hb1.size), ((rowV_of HR1.out).below hb2).mono (Nat.le_refl _) hb2.size, (rowV_of hR2).mono hb1.size (Nat.le_refl _)⟩
        | exact ⟨(HD0.out.trans hb2).trans (hb1.mono hb2.size), (rowV_of hR1).mono hb2.size (Nat.le_refl _), ((rowV_of HR2.out).below hb1).mono (Nat.le_refl _) hb1.size⟩)
  case rest =>
    obtain ⟨hbw, hr4, hr5⟩ := hcut
    have hfr : Free B wc W.heap.size wc.heap.size := fun k hk => by rw [ownAt_below hbw hB, hfree] at hk; cases hk
    have hJ1 := hJ _ _ _ h0 hbw
    have hsz := hbw.size
    have HF0 := Lib.hid hfr
    have HR4 := Lib.hid hr4
    have HR5 := Lib.hid hr5
    clear hNa hNb hC hC2 hba hbb hfr hr4 hr5 h0
    gi_wp2_with fail
    gi_loopw [4, 5] (fun v4 v5 wr => ∃ pre x y, Hid (pre ++ pairsS (x.length + y.length) x y = pairsS (X.length + Y.length) X Y) ∧ x.length ≤ X.length ∧ y.length ≤ Y.length ∧ J pre wr ∧ wc.heap.size ≤ wr.heap.size ∧ Hid (RowV wr W.heap.size wc.heap.size v4 x) ∧ Hid (RowV wr W.heap.size wc.heap.size v5 y) ∧ Hid (Free B wr W.heap.size wc.heap.size)) (fun v4 v5 _ => lenV v4 + lenV v5)
    case atStart => exact ⟨[], X, Y, rfl, Nat.le_refl _, Nat.le_refl _, hJ1, Nat.le_refl _, HR4, HR5, HF0⟩
    case round =>
      obtain ⟨pre, x, y, HT, hxl, hyl, hJs, hws, HX, HY, HF⟩ := hrel
      clear HF0 HR4 HR5 hJ1
      cases x with
      | nil =>
        obtain ⟨A3, c3, hA3, _, _⟩ := HX.out
        obtain ⟨A4, c4, hA4, _, _⟩ := HY.out
        subst hA3; subst hA4
        have HT2 : Hid (pre = pairsS (X.length + Y.length) X Y) := Lib.hid (by rw [← HT.out, pairsS_nil, List.append_nil])
        clear HT
        simp only [List.length_nil] at *
        gi_wp2
        go_end0
        first
          | exact ⟨⟨_, rfl⟩, .inl ⟨_, HT2.out, hJs⟩⟩
          | exact ⟨⟨_, rfl⟩, .inl (HT2.out ▸ hJs)⟩
      | cons s x =>
        obtain ⟨g, o, d, hv4, hd, hg1, hg2, q1, q2, hrest⟩ := HX.out.cons
        subst hv4
        have HXR := Lib.hid hrest
        clear hrest
        cases y with
        | nil =>
          obtain ⟨A4, c4, hA4, _, _⟩ := HY.out
          subst hA4
          have HT2 : Hid (pre = pairsS (X.length + Y.length) X Y) := Lib.hid (by rw [← HT.out, pairsS_nil2, List.append_nil])
          clear HT
          have e1 : (0 : Int) < (x.length : Int) + 1 := by omega
          simp only [List.length_nil] at *
          gi_wp2
          go_end0
          first
            | exact ⟨⟨_, rfl⟩, .inl ⟨_, HT2.out, hJs⟩⟩
            | exact ⟨⟨_, rfl⟩, .inl (HT2.out ▸ hJs)⟩
        | cons u y =>
          obtain ⟨g', o', d', hv5, hd', hg1', hg2', q1', q2', hrest'⟩ := HY.out.cons
          subst hv5
          have HYR := Lib.hid hrest'
          clear hrest'
          have e1 : (0 : Int) < (x.length : Int) + 1 := by omega
          have e2 : (0 : Int) < (y.length : Int) + 1 := by omega
          have hk : (s :: x).length + (u :: y).length = (x.length + (y.length + 1)) + 1 := by simp only [List.length_cons]; omega
          have HT2 : Hid (pre ++ (if max s.f0 u.f0 ≤ min s.f1 u.f1 then [(s, u)] else []) ++ (if s.f1 < u.f1 then pairsS (x.length + (u :: y).length) x (u :: y) else pairsS ((s :: x).length + y.length) (s :: x) y) = pairsS (X.length + Y.length) X Y) := Lib.hid (by
            rw [← HT.out, hk, pairsS_cons, List.append_assoc]
            simp only [List.length_cons]
            rw [show x.length + 1 + y.length = x.length + (y.length + 1) by omega])
          clear HT
          simp only [List.length_cons] at hxl hyl
          gi_wp2_with fail
          gi_cut [47] from 61 (fun v47 wx => (v47 = .bool false ∧ ∃ pre', Hid (pre' ++ (if s.f1 < u.f1 then pairsS (x.length + (u :: y).length) x (u :: y) else pairsS ((s :: x).length + y.length) (s :: x) y) = pairsS (X.length + Y.length) X Y) ∧ J pre' wx ∧ wc.heap.size ≤ wx.heap.size ∧ Hid (RowV wx W.heap.size wc.heap.size (.slice (some ⟨g, o, none⟩) (x.length + 1) d) (s :: x)) ∧ Hid (RowV wx W.heap.size wc.heap.size (.slice (some ⟨g', o', none⟩) (y.length + 1) d') (u :: y)) ∧ Hid (Free B wx W.heap.size wc.heap.size)) ∨ (v47 = .bool true ∧ Hid (pre ++ [(s, u)] <+: pairsS (X.length + Y.length) X Y) ∧ Jx (pre ++ [(s, u)]) wx))
          case first =>
            by_cases hm : max s.f0 u.f0 ≤ min s.f1 u.f1
            · refine wpIn_region_still_tail 27 rfl (fun _ => trivial) (fun h => by cases h) (fun f args w X h => callsIn_wide.2 h) (by kernel_rfl) (by kernel_rfl) ?_
              simp only [List.take_succ_cons, List.take_zero, List.drop_succ_cons, List.drop_zero]
              change wpStill _ _ wr.drew _ _ _
              repeat still_step
              refine wpStill_nil ?_
              have hbd : Below wr.heap.size wr wr.drew := ((Stir.refl (fun _ => False) wr).drew).below (Nat.le_refl _) (fun _ e => e.elim)
              obtain ⟨fn, tmps, assign, body, hy, hR⟩ := hY pre (s, u) wr.drew (hJ _ _ _ hJs hbd) (by rw [← HT2.out, if_pos hm]; simp)
              have HXd := Lib.hid (HX.out.below hbd)
              have HYd := Lib.hid (HY.out.below hbd)
              have HFd := Lib.hid (HF.out.below hbd (by omega))
              have hsd := hbd.size
              try dsimp only at hy hR
              clear hbd q1 q2 q1' q2' hJs
              change wpListIn _ _ _ _ _ _ _ wr.drew
              gi_wp2_with fail
              refine hR.mono ?_
              rintro e W3 (⟨rfl, hJ3, hk3⟩ | ⟨rfl, hJx3⟩)
              · have hs3 := hk3.size
                have HX3 := Lib.hid (HXd.out.keep hk3 (by omega) HFd.out)
                have HY3 := Lib.hid (HYd.out.keep hk3 (by omega) HFd.out)
                have HF3 := Lib.hid (HFd.out.keep hk3 (by omega))
                clear hR hy hk3
                gi_wp2_with fail
                gi_meet
                refine .inl ⟨rfl, _, Lib.hid (by rw [← HT2.out, if_pos hm]), hJ3, by omega, HX3, HY3, HF3⟩
              · clear hR hy
                gi_wp2_with fail
                gi_meet
                refine .inr ⟨rfl, Lib.hid ⟨_, by rw [← HT2.out, if_pos hm]⟩, hJx3⟩
            · have hdf : decide (max s.f0 u.f0 ≤ min s.f1 u.f1) = false := decide_eq_false hm
              have HT4 : Hid (pre ++ (if s.f1 < u.f1 then pairsS (x.length + (u :: y).length) x (u :: y) else pairsS ((s :: x).length + y.length) (s :: x) y) = pairsS (X.length + Y.length) X Y) := Lib.hid (by rw [← HT2.out, if_neg hm, List.append_nil])
              have k1 : ∀ n, (wr.drewN n).cell? ⟨g, o, none⟩ = some (.int .i64 s.f0) := fun n => ((Stir.refl (fun _ => False) wr).drewN n).cell q1 (fun e => e)
              have k2 : ∀ n, (wr.drewN n).cell? ⟨g, o + 1, none⟩ = some (.int .i64 s.f1) := fun n => ((Stir.refl (fun _ => False) wr).drewN n).cell q2 (fun e => e)
              have k3 : ∀ n, (wr.drewN n).cell? ⟨g', o', none⟩ = some (.int .i64 u.f0) := fun n => ((Stir.refl (fun _ => False) wr).drewN n).cell q1' (fun e => e)
              have k4 : ∀ n, (wr.drewN n).cell? ⟨g', o' + 1, none⟩ = some (.int .i64 u.f1) := fun n => ((Stir.refl (fun _ => False) wr).drewN n).cell q2' (fun e => e)
              clear hm HT2 q1 q2 q1' q2'
              refine wpIn_region_quiet_lit rfl (by kernel_rfl) (by kernel_rfl) ?_
              repeat (gi_big_quiet_step (fail))
              refine BigFrame.wpQuietIn_skip (fun _ _ _ _ => trivial) (by kernel_rfl) ?_
              simp only [Act.put, List.setIfInBounds_toArray, List.set_cons_succ, List.set_cons_zero]
              repeat (gi_big_quiet_step (fail))
              refine wpQuietIn_nil ?_
              rintro _ ⟨nq, rfl⟩
              have hbd : Below wr.heap.size wr (wr.drewN nq) := ((Stir.refl (fun _ => False) wr).drewN nq).below (Nat.le_refl _) (fun _ e => e.elim)
              have HXd := Lib.hid (HX.out.below hbd)
              have HYd := Lib.hid (HY.out.below hbd)
              have HFd := Lib.hid (HF.out.below hbd (by omega))
              have hJd := hJ _ _ _ hJs hbd
              have hsd := hbd.size
              clear hbd k1 k2 k3 k4 hJs
              gi_wp2_with fail
              gi_meet
              exact .inl ⟨rfl, _, HT4, hJd, by omega, HXd, HYd, HFd⟩
          case rest =>
            rcases hcut with ⟨rfl, pre', HT3, hJ3, hw3, HX3, HY3, HF3⟩ | ⟨rfl, HP3, hJx3⟩
            · obtain ⟨g3, o3, d3, hv3, _, _, _, _, p2, hr3⟩ := HX3.out.cons
              cases hv3
              obtain ⟨g4, o4, d4, hv4, _, _, _, _, p4, hr4⟩ := HY3.out.cons
              cases hv4
              have HR3 := Lib.hid hr3
              have HR4 := Lib.hid hr4
              have k2 : ∀ n, (wc.drewN n).cell? ⟨g, o + 1, none⟩ = some (.int .i64 s.f1) := fun n => ((Stir.refl (fun _ => False) wc).drewN n).cell p2 (fun e => e)
              have k4 : ∀ n, (wc.drewN n).cell? ⟨g', o' + 1, none⟩ = some (.int .i64 u.f1) := fun n => ((Stir.refl (fun _ => False) wc).drewN n).cell p4 (fun e => e)
              clear hr3 hr4 p2 p4 HX HY HF HXR HYR hJs HT2 q1 q2 q1' q2'
              gi_wp2_with fail
              by_cases hlt : s.f1 < u.f1
              · have hdl : decide (s.f1 < u.f1) = true := decide_eq_true hlt
                rw [if_pos hlt] at HT3
                gi_big_quiet_th (fail)
                have hbd : Below wc.heap.size wc (wc.drewN nq) := ((Stir.refl (fun _ => False) wc).drewN nq).below (Nat.le_refl _) (fun _ e => e.elim)
                have HYd := Lib.hid (HY3.out.below hbd)
                have HFd := Lib.hid (HF3.out.below hbd (by omega))
                have hJd := hJ _ _ _ hJ3 hbd
                have hsd := hbd.size
                have hsl := run_drop2 g o x.length d hd
                have HX1 := Lib.hid ((HR3.out (tlo o d) (d - 1) (by omega) (fun e => if_neg e)).below hbd)
                clear hbd k2 k4 hJ3 HR3 HR4
                gi_wp2
                refine ⟨⟨pre', x, u :: y, HT3, by omega, hyl, hJd, by omega, HX1, HYd, HFd⟩, ?_⟩
                show x.length + (y.length + 1) < (x.length + 1) + (y.length + 1)
                omega
              · have hdl : decide (s.f1 < u.f1) = false := decide_eq_false hlt
                rw [if_neg hlt] at HT3
                gi_big_quiet_th (fail)
                have hbd : Below wc.heap.size wc (wc.drewN nq) := ((Stir.refl (fun _ => False) wc).drewN nq).below (Nat.le_refl _) (fun _ e => e.elim)
                have HXd := Lib.hid (HX3.out.below hbd)
                have HFd := Lib.hid (HF3.out.below hbd (by omega))
                have hJd := hJ _ _ _ hJ3 hbd
                have hsd := hbd.size
                have hsl := run_drop2 g' o' y.length d' hd'
                have HY1 := Lib.hid ((HR4.out (tlo o' d') (d' - 1) (by omega) (fun e => if_neg e)).below hbd)
                clear hbd k2 k4 hJ3 HR3 HR4
                gi_wp2
                refine ⟨⟨pre', s :: x, y, HT3, hxl, by omega, hJd, by omega, HXd, HY1, HFd⟩, ?_⟩
                show (x.length + 1) + y.length < (x.length + 1) + (y.length + 1)
                omega
            · gi_wp2
              refine bodyPost_ret (results_none rfl _ _ _) rfl ?_
              exact ⟨⟨_, rfl⟩, .inr ⟨_, HP3.out, hJx3⟩⟩
end Go.Proofs.YtnlakdpfkgjdaaaDoor.G

/- What the library's SplitSeq at a comma hands on: the pieces of the text. Condition: a bound on the text's length. -/
namespace Go.Proofs.YtnlakdpfkgjdaaaDoor
open Go.RowKit Go.Shelf Go.Cav
attribute [local go_sem] Oper.semAt_some

/-- the pieces of a text at its commas -/
def cutB (s : ByteArray) : List ByteArray := (cutAt 44 s.data.toList).map fun p => ⟨p.toArray⟩
theorem cut_index (c : UInt8) : ∀ l : List UInt8, (Lib.index l [c] = -1 ∧ cutAt c l = [l]) ∨ ∃ i : Nat, Lib.index l [c] = i ∧ i < l.length ∧ cutAt c l = l.take i :: cutAt c (l.drop (i + 1))
  | [] => .inl ⟨rfl, rfl⟩
  | b :: l => by
    by_cases h : b = c
    · subst h
      refine .inr ⟨0, by rw [Lib.index]; simp [List.isPrefixOf], by simp, ?_⟩
      rw [cutAt, if_pos rfl]; rfl
    · rw [cutAt, if_neg h, index_one_ne b c l h]
      rcases cut_index c l with ⟨h1, h2⟩ | ⟨i, h1, h2, h3⟩
      · refine .inl ⟨by rw [h1]; rfl, by rw [h2]; rfl⟩
      · refine .inr ⟨i + 1, ?_, by simp; omega, ?_⟩
        · rw [h1, if_neg (fun e => by have := beq_iff_eq.1 e; omega)]; simp
        · rw [h3]; rfl
theorem cutB_index (s : ByteArray) : (Lib.index s.data.toList [44] = -1 ∧ cutB s = [s]) ∨ ∃ i : Nat, Lib.index s.data.toList [44] = i ∧ i < s.size ∧ cutB s = s.extract 0 i :: cutB (s.extract (i + 1) s.size) := by
  unfold cutB
  rcases cut_index 44 s.data.toList with ⟨h1, h2⟩ | ⟨i, h1, h2, h3⟩
  · exact .inl ⟨h1, by rw [h2]; rfl⟩
  · refine .inr ⟨i, h1, by rw [Array.length_toList] at h2; exact h2, ?_⟩
    rw [h3, List.map_cons]
    congr 1
    · apply ByteArray.ext
      rw [ByteArray.data_extract]
      apply Array.ext'; simp
    · have e : (s.extract (i + 1) s.size).data.toList = s.data.toList.drop (i + 1) := by
        rw [ByteArray.data_extract, Array.toList_extract, List.extract_eq_take_drop]
        exact List.take_of_length_le (by rw [List.length_drop, Array.length_toList]; exact Nat.le_refl _)
      rw [e]

/-- the iterator's own steps: it turns one box -/
def Own1 (B : Nat) (X Y : World) : Prop := Stir (fun k => k = B) X Y ∧ ∃ o : Obj, X.heap[B]? = some o ∧ o.isCells = true
theorem own1_plain (B : Nat) : Plain (Own1 B) := by
  intro X Y i o h hi hc _
  refine (h.1.block i (lt_of_heap hi) (fun e => ?_)).trans hi
  obtain ⟨o', h1, h2⟩ := h.2
  rw [e] at hi
  rw [hi] at h1; cases h1; rw [hc] at h2; cases h2
theorem boxed_stir {S : Nat → Prop} {W W' : World} {B t : Nat} {v : Value} (h : Boxed W B t v) (hs : Stir S W W') (hn : ¬ S B) : Boxed W' B t v := by
  have hb := h
  unfold Boxed at hb ⊢
  exact (hs.block B h.lt hn).trans hb
def lenS : Option Value → Nat
  | some (.string x) => x.size
  | _ => 0

set_option maxRecDepth 100000 in
set_option maxHeartbeats 4000000 in
theorem commas_in (T : Nat → Prop) (Bp Bs B0 : Nat) (m : Int) (hps : Bp ≠ Bs) (h0s : B0 ≠ Bs) (hgs : 0 ≠ Bs) (hTp : ¬ T Bp) (hTs : ¬ T Bs) (hT0 : ¬ T B0) (hTg : ¬ T 0) (n : Nat) (hn : 1 ≤ n) (l : Nat) (s0 : ByteArray) (hm : s0.size ≤ 4000000000)
    (J Jx : List ByteArray → World → Prop) (W : World)
    (hJ : ∀ s A B, J s A → Own1 Bs A B → J s B)
    (hY : ∀ pre x W1, x.size ≤ 4000000000 → J pre W1 → pre.length < (cutB s0).length → YieldAt Fence.wide (n - 1) Tryd.prog l #[.string x] W1 fun e W' =>
      (e = .returned (.bool true) ∧ J (pre ++ [x]) W' ∧ Stir T W1 W') ∨ (e = .returned (.bool false) ∧ Jx (pre ++ [x]) W'))
    (bp : Boxed W Bp 9 (.string ⟨#[44]⟩)) (bs : Boxed W Bs 9 (.string s0)) (b0 : Boxed W B0 3 (.int .i64 0)) (hg : W.cell? ⟨0, 0, none⟩ = some (.int .i64 m)) (h0 : J [] W) :
    CallsIn Fence.wide n Tryd.prog 59 #[.func (.yield l) #[] #[], .pointer (some ⟨Bp, 0, none⟩), .pointer (some ⟨Bs, 0, none⟩), .pointer (some ⟨B0, 0, none⟩)] W fun e W' => (∃ v, e = .returned v) ∧
      ((∃ xs, xs = cutB s0 ∧ J xs W') ∨ (∃ pre, pre <+: cutB s0 ∧ Jx pre W')) := by
  refine callsIn_of_wp Tryd.func59 rfl trivial ?_ rfl
  simp only [Tryd.ntmps59, List.size_toArray, List.length_cons, List.length_nil, Nat.reduceAdd, Nat.reduceSub, Array.replicate_succ, Array.replicate_zero, List.push_toArray, List.append_toArray, List.nil_append, List.cons_append]
  have HB := Lib.hid (And.intro bs (And.intro b0 hg))
  have Hbp := Lib.hid bp
  have c1 := bp.cell
  clear bs b0 bp hg
  gi_wp2
  clear c1
  gi_loopw [] (fun wr => ∃ pre x, Hid (pre ++ cutB x = cutB s0) ∧ x.size ≤ 4000000000 ∧ Hid (J pre wr) ∧ Hid (Boxed wr Bp 9 (.string ⟨#[44]⟩)) ∧ Hid (Boxed wr Bs 9 (.string x) ∧ Boxed wr B0 3 (.int .i64 0) ∧ wr.cell? ⟨0, 0, none⟩ = some (.int .i64 m))) (fun wr => lenS (wr.cell? ⟨Bs, 0, none⟩))
  case atStart => exact ⟨[], s0, rfl, hm, h0, Hbp, HB⟩
  case round =>
    obtain ⟨pre, x, HT, hlen, HJ, Hbp, HB⟩ := hrel
    clear h0
    obtain ⟨bs, b0, hg⟩ := HB.out
    have c1 := Hbp.out.cell
    have c2 := bs.cell
    have c3 := b0.cell
    have f2 := bs.frozen
    have hml : Hid (lenS (wr.cell? ⟨Bs, 0, none⟩) = x.size) := by rw [c2]; rfl
    have hI := (callsIn_wide (n := n - 1)).2 (Tryd.strings_Index x ⟨#[44]⟩ m wr (by omega) hg)
    have Hbs := Lib.hid bs
    have Hb0 := Lib.hid b0
    have Hg := Lib.hid hg
    clear bs b0 hg HB
    rcases cutB_index x with ⟨hi, hc⟩ | ⟨i, hi, hil, hc⟩
    · rw [show (ByteArray.mk #[44]).data.toList = [44] from rfl, hi] at hI
      have HC := Lib.hid hc
      clear hi hc
      have hpl : pre.length < (cutB s0).length := by rw [← HT.out, HC.out]; simp
      obtain ⟨fn, tmps, assign, body, hy, hR⟩ := hY pre x wr hlen HJ.out hpl
      try dsimp only at hy hR
      gi_wp2_with fail
      refine ⟨trivial, hI.mono ?_⟩
      rintro e w1 ⟨rfl, rfl⟩
      clear hI
      gi_wp2_with fail
      refine hR.mono ?_
      rintro e W3 (⟨rfl, hJ3, hk3⟩ | ⟨rfl, hJx3⟩)
      · clear hy hR c1 c2 c3 f2
        gi_wp2
        go_end0
        exact ⟨⟨_, rfl⟩, .inl ⟨_, by rw [← HT.out, HC.out], hJ3⟩⟩
      · clear hy hR c1 c2 c3 f2
        gi_wp2
        go_end0
        exact ⟨⟨_, rfl⟩, .inr ⟨_, by rw [← HT.out, HC.out]; exact List.prefix_refl _, hJx3⟩⟩
    · rw [show (ByteArray.mk #[44]).data.toList = [44] from rfl, hi] at hI
      have HC := Lib.hid hc
      clear hi hc
      have hpl : pre.length < (cutB s0).length := by rw [← HT.out, HC.out]; simp
      have htw : pre ++ [x.extract 0 i] ++ cutB (x.extract (i + 1) x.size) = cutB s0 := by rw [← HT.out, HC.out]; simp
      have HT2 := Lib.hid htw
      have hle : (x.extract (i + 1) x.size).size ≤ 4000000000 ∧ (x.extract (i + 1) x.size).size < x.size := by rw [ByteArray.size_extract]; omega
      have HLE := Lib.hid hle
      clear htw hle
      have e1 : ¬ (i : Int) < 0 := by omega
      obtain ⟨fn, tmps, assign, body, hy, hR⟩ := hY pre (x.extract 0 i) wr (by rw [ByteArray.size_extract]; omega) HJ.out hpl
      gi_wp2_with fail
      refine ⟨trivial, hI.mono ?_⟩
      rintro e w1 ⟨rfl, rfl⟩
      clear hI
      gi_wp2_with fail
      refine hR.mono ?_
      rintro e W3 (⟨rfl, hJ3, hk3⟩ | ⟨rfl, hJx3⟩)
      · clear hy hR c1 c2 c3 f2
        have bs3 := boxed_stir Hbs.out hk3 hTs
        have bp3 := boxed_stir Hbp.out hk3 hTp
        have b03 := boxed_stir Hb0.out hk3 hT0
        have hg3 := hk3.cell Hg.out hTg
        have c1 := bp3.cell
        have c2 := bs3.cell
        have f2 := bs3.frozen
        have hst : Stir (fun k => k = Bs) W3 (W3.setCell ⟨Bs, 0, none⟩ (.string (x.extract (i + 1) x.size))) := (Stir.refl (fun k => k = Bs) W3).setCell (p := ⟨Bs, 0, none⟩) (fun _ => rfl) _
        have hF : Hid (J (pre ++ [x.extract 0 i]) (W3.setCell ⟨Bs, 0, none⟩ (.string (x.extract (i + 1) x.size))) ∧ Boxed (W3.setCell ⟨Bs, 0, none⟩ (.string (x.extract (i + 1) x.size))) Bp 9 (.string ⟨#[44]⟩) ∧ Boxed (W3.setCell ⟨Bs, 0, none⟩ (.string (x.extract (i + 1) x.size))) Bs 9 (.string (x.extract (i + 1) x.size)) ∧ Boxed (W3.setCell ⟨Bs, 0, none⟩ (.string (x.extract (i + 1) x.size))) B0 3 (.int .i64 0) ∧ (W3.setCell ⟨Bs, 0, none⟩ (.string (x.extract (i + 1) x.size))).cell? ⟨0, 0, none⟩ = some (.int .i64 m)) :=
          Lib.hid ⟨hJ _ _ _ hJ3 ⟨hst, _, bs3, rfl⟩, boxed_stir bp3 hst hps, bs3.set _, boxed_stir b03 hst h0s, hst.cell hg3 hgs⟩
        clear hst bs3 bp3 b03 hg3 hJ3 hk3
        gi_wp2
        obtain ⟨g1, g2, g3, g4, g5⟩ := hF.out
        go_roundw
        case rel => exact ⟨_, _, HT2, HLE.out.1, Lib.hid g1, Lib.hid g2, Lib.hid ⟨g3, g4, g5⟩⟩
        case measure => rw [hml.out, g3.cell]; exact HLE.out.2
      · clear hy hR c1 c2 c3 f2
        gi_wp2
        refine bodyPost_ret (results_none rfl _ _ _) rfl ?_
        exact ⟨⟨_, rfl⟩, .inr ⟨_, ⟨_, HT2.out⟩, hJx3⟩⟩
/-- a piece, not too long -/
abbrev Pc : Type := { x : ByteArray // x.size ≤ 4000000000 }
theorem cutB_len (s : ByteArray) : (cutB s).length ≤ s.size + 1 := by
  unfold cutB
  rw [List.length_map]
  have key : ∀ l : List UInt8, (cutAt 44 l).length ≤ l.length + 1 := by
    intro l
    induction l with
    | nil => simp [cutAt]
    | cons b l ih =>
      rw [cutAt]
      split
      · simp; exact ih
      · cases h : cutAt 44 l with
        | nil => simp [headCons]
        | cons p r => rw [h] at ih; simp [headCons] at ih ⊢; omega
  have := key s.data.toList
  rw [Array.length_toList] at this
  exact this
theorem commas_seq (T : Nat → Prop) (Bp Bs B0 : Nat) (m : Int) (hps : Bp ≠ Bs) (h0s : B0 ≠ Bs) (hgs : 0 ≠ Bs) (hTp : ¬ T Bp) (hTs : ¬ T Bs) (hT0 : ¬ T B0) (hTg : ¬ T 0) (n : Nat) (hn : 1 ≤ n) (s0 : ByteArray) (hm : s0.size ≤ 4000000000) (w : World)
    (bp : Boxed w Bp 9 (.string ⟨#[44]⟩)) (bs : Boxed w Bs 9 (.string s0)) (b0 : Boxed w B0 3 (.int .i64 0)) (hg : w.cell? ⟨0, 0, none⟩ = some (.int .i64 m)) :
    SeqT Fence.wide n Tryd.prog 59 #[.pointer (some ⟨Bp, 0, none⟩), .pointer (some ⟨Bs, 0, none⟩), .pointer (some ⟨B0, 0, none⟩)] (fun x : Pc => #[.string x.1]) (Stir T) (Own1 Bs)
      (fun xs _ => xs.map (·.1) = cutB s0) (fun pre _ => pre.map (·.1) <+: cutB s0) (cutB s0).length w := by
  intro l J Jx W hW hJ _ hY h0
  have hs : Stir (fun _ => False) w W := Stir.of_below hW _
  refine (commas_in T Bp Bs B0 m hps h0s hgs hTp hTs hT0 hTg n hn l s0 hm (fun xs W => ∃ ys : List Pc, ys.map (·.1) = xs ∧ J ys W) (fun xs W => ∃ ys : List Pc, ys.map (·.1) = xs ∧ Jx ys W) W ?_ ?_ (boxed_stir bp hs (fun e => e)) (boxed_stir bs hs (fun e => e)) (boxed_stir b0 hs (fun e => e)) (hs.cell hg (fun e => e)) ⟨[], rfl, h0⟩).mono ?_
  · rintro xs X Y ⟨ys, e, h⟩ hr
    exact ⟨ys, e, hJ _ _ _ h hr⟩
  · rintro pre x W1 hx ⟨ys, e, h⟩ hl
    refine (?_ : _ → _) (hY ys ⟨x, hx⟩ W1 h (by rw [← e, List.length_map] at hl; exact hl))
    rintro ⟨fn, tmps, assign, body, hy, hR⟩
    refine ⟨fn, tmps, assign, body, hy, hR.mono ?_⟩
    rintro e' W' (⟨h1, h2, h3⟩ | ⟨h1, h2⟩)
    · exact .inl ⟨h1, ⟨_, by rw [List.map_append, e]; rfl, h2⟩, h3⟩
    · exact .inr ⟨h1, _, by rw [List.map_append, e]; rfl, h2⟩
  · rintro e' W' ⟨hv, (⟨xs, h1, ys, h2, h3⟩ | ⟨xs, h1, ys, h2, h3⟩)⟩
    · exact ⟨hv, .inl ⟨ys, h2.trans h1, h3⟩⟩
    · exact ⟨hv, .inr ⟨ys, by show ys.map (·.1) <+: _; rw [h2]; exact h1, h3⟩⟩
theorem split_any (s : ByteArray) (w : World) : Calls Tryd.prog 29 #[.string s, .string ⟨#[44]⟩] w fun e w' => e = .returned (.func (.func 59) #[] #[.pointer (some ⟨w.heap.size + 1, 0, none⟩), .pointer (some ⟨w.heap.size, 0, none⟩), .pointer (some ⟨w.heap.size + 2, 0, none⟩)]) ∧ w' = ((w.alloc (.cells #[.string s] 9)).alloc (.cells #[.string ⟨#[44]⟩] 9)).alloc (.cells #[.int .i64 0] 3) := by
  have h : Calls Tryd.prog 42 #[.string s, .string ⟨#[44]⟩, .int .i64 0] w fun e w' => e = .returned (.func (.func 59) #[] #[.pointer (some ⟨w.heap.size + 1, 0, none⟩), .pointer (some ⟨w.heap.size, 0, none⟩), .pointer (some ⟨w.heap.size + 2, 0, none⟩)]) ∧ w' = ((w.alloc (.cells #[.string s] 9)).alloc (.cells #[.string ⟨#[44]⟩] 9)).alloc (.cells #[.int .i64 0] 3) := by
    go_enter Tryd.func42, Tryd.ntmps42
    go_wp2
    go_ret
    exact ⟨by simp, rfl⟩
  go_enter Tryd.func29, Tryd.ntmps29
  go_wp2_with fail
  refine h.mono ?_
  rintro e w1 ⟨rfl, rfl⟩
  go_wp2
  go_ret
  exact ⟨rfl, rfl⟩
end Go.Proofs.YtnlakdpfkgjdaaaDoor

/- Steps of the fenced walk at rows of cells: a load and a store of a whole row. No conditions. -/
namespace Go.Cav
open Go Go.RowKit
variable {P : Program}

theorem wpListIn_store_row {F : Fence} {nf : Nat} {ops : Array Oper} {rest : List Oper} {o : Oper} {a : Act} {w : World} {Q : Exit → Act → World → Prop} (hgd : o.guard = none) (ty : TypeId) (x y : Operand) (ho : o.op = .store ty x y)
    (g : Nat) (cells : Array Value) (hx : a.eval x = .pointer (some ⟨g, 0, none⟩)) (hy : a.eval y = .agg cells)
    (t : TypeId) (old : Array Value) (hg : w.heap[g]? = some (.cells old t (0, 0))) (hi : (P.info? ty).map (·.size) = some cells.size)
    (hold : old.size = cells.size) (h1 : cells.all (·.oneCell') = true)
    (h : wpListIn F nf P ops Q rest (a.put o.dst undef) (w.setRow g cells)) : wpListIn F nf P ops Q (o :: rest) a w := by
  refine wpListIn_plain hgd fun K hK => ?_
  unfold Oper.wpIn
  refine ⟨?_, ?_⟩
  · simp [Oper.about, ho]
  · rw [Oper.semAt_plain F _ _ (by rw [ho]; intro c hc'; cases hc')]
    simp only [execOp, ho, hx, hy, Instr.storeAt, Instr.sureAddr, Sem.run_bind, Sem.run_pure, Result.andThen_ok, run_storeVar_row w g t ty old cells hg hi hold h1]
    exact hK _ _ h

theorem wpListIn_load_row {F : Fence} {nf : Nat} {ops : Array Oper} {rest : List Oper} {o : Oper} {a : Act} {w : World} {Q : Exit → Act → World → Prop} (hgd : o.guard = none) (ty : TypeId) (x : Operand) (ho : o.op = .load ty x)
    (g : Nat) (hx : a.eval x = .pointer (some ⟨g, 0, none⟩)) (t : TypeId) (cs : Array Value) (fr : Nat × Nat) (d : TypeDesc) (hg : w.heap[g]? = some (.cells cs t fr))
    (hu : P.underlying ty = some d) (hd : (match d with | .struct _ | .array _ _ => true | _ => false) = true) (hi : (P.info? ty).map (·.size) = some cs.size)
    (h : wpListIn F nf P ops Q rest (a.put o.dst (.agg cs)) w) : wpListIn F nf P ops Q (o :: rest) a w := by
  refine wpListIn_plain hgd fun K hK => ?_
  unfold Oper.wpIn
  refine ⟨?_, ?_⟩
  · simp [Oper.about, ho]
  · rw [Oper.semAt_plain F _ _ (by rw [ho]; intro c hc'; cases hc')]
    simp only [execOp, ho, hx, Instr.loadAt, Instr.sureAddr, Sem.run_bind, Sem.run_pure, Result.andThen_ok, run_loadVar_row w g t ty cs fr d hg hu hd hi]
    exact hK _ _ h

theorem wpListIn_build {F : Fence} {nf : Nat} {ops : Array Oper} {rest : List Oper} {o : Oper} {a : Act} {w : World} {Q : Exit → Act → World → Prop} (hgd : o.guard = none) (t : TypeId) (parts : Array (Nat × Operand)) (ho : o.op = .build t parts)
    (cells : Array Value) (hf : P.built t (parts.map fun (i, x) => (i, a.eval x)).toList = some cells)
    (h : wpListIn F nf P ops Q rest (a.put o.dst (.agg cells)) w) : wpListIn F nf P ops Q (o :: rest) a w := by
  refine wpListIn_plain hgd fun K hK => ?_
  unfold Oper.wpIn
  refine ⟨?_, ?_⟩
  · simp [Oper.about, ho]
  · rw [Oper.semAt_plain F _ _ (by rw [ho]; intro c hc'; cases hc')]
    unfold execOp
    simp only [ho, Sem.run_bind, run_build w t _ cells hf, Result.andThen_ok]
    exact hK _ _ h

theorem grownBy_setRow (W : World) (g : Nat) (new : Array Value) : W.grownBy (W.setRow g new) (some g) :=
  ⟨rfl, rfl, rfl, by simp [World.setRow], fun k _ hk => setRow_other W g k new (fun e => hk (by rw [e]))⟩
theorem KeepsOthers.setRow (W : World) (g : Nat) (new old : Array Value) (t : TypeId) (fr : Nat × Nat) (h : W.heap[g]? = some (.cells old t fr)) : KeepsOthers W (W.setRow g new) :=
  KeepsOthers.of_grownBy (grownBy_setRow W g new) (fun j o e hj => by cases e; rw [h] at hj; cases hj; rfl)
theorem Stir.setRow {S : Nat → Prop} {a b : World} (h : Stir S a b) {g : Nat} (hg : g < a.heap.size → S g) (new : Array Value) : Stir S a (b.setRow g new) :=
  h.grown (grownBy_setRow b g new) (fun k e hk => by cases e; exact hg hk)
end Go.Cav

/- spans.Read: what it tells of a text. Condition: a bound on the text's length. -/
namespace Go.Proofs.YtnlakdpfkgjdaaaDoor.G
open Go.RowKit Go.Shelf Go.Cav Go.Proofs.YtnlakdpfkgjdaaaDoorW.PrintWords Go.Proofs.YtnlakdpfkgjdaaaDoorW.PrintLast Go.Proofs.YtnlakdpfkgjdaaaDoorW.PrintMore
attribute [local go_sem] Oper.semAt_some
/-- is a text a number for Atoi? -/
def atoiO (s : ByteArray) : Bool := match Lib.atoiAll s.data.toList with | .ok _ => true | _ => false
theorem atoi_err (s : ByteArray) (hs : s.size ≤ 281474976710656) (w : World) (hW : Wd w) :
    Calls Tryd.prog 31 #[.string s] w fun e w' => ∃ ev, e = .returned (.tuple #[.int .i64 (atoiV s), ev]) ∧ (atoiO s = true → ev = .nilIface) ∧ (atoiO s = false → ∃ te pe, ev = .iface te pe) ∧ Below w.heap.size w w' := by
  obtain ⟨ev0, hv0, he0⟩ := hW.syn
  obtain ⟨ev1, hv1, he1⟩ := hW.rng
  unfold atoiV atoiO
  cases hc : Lib.atoiAll s.data.toList with
  | «syntax» =>
    refine (Tryd.strconv_Atoi_syntax s hs hc ev0 w hv0 he0).mono ?_
    rintro e w1 ⟨N, rfl, -, -, hb⟩
    exact ⟨_, rfl, fun h => by simp at h, fun _ => ⟨_, _, rfl⟩, hb⟩
  | range =>
    refine (Tryd.strconv_Atoi_range s hs hc ev1 w hv1 he1).mono ?_
    rintro e w1 ⟨N, rfl, -, -, hb⟩
    exact ⟨_, rfl, fun h => by simp at h, fun _ => ⟨_, _, rfl⟩, hb⟩
  | ok v =>
    refine (Tryd.strconv_Atoi_ok s (by omega) v hc w).mono ?_
    rintro e w1 ⟨rfl, hb⟩
    exact ⟨_, rfl, fun _ => rfl, fun h => by simp at h, atoi_ok_below hb⟩
def cut1 (x : ByteArray) : ByteArray := ⟨(Lib.cut x.data.toList [45]).1.toArray⟩
def cut2 (x : ByteArray) : ByteArray := ⟨(Lib.cut x.data.toList [45]).2.1.toArray⟩
def cutH (x : ByteArray) : Bool := (Lib.cut x.data.toList [45]).2.2
theorem cut_sizes (x : ByteArray) : (cut1 x).size ≤ x.size ∧ (cut2 x).size ≤ x.size := by
  unfold cut1 cut2 Lib.cut
  have e : ∀ l : List UInt8, (ByteArray.mk l.toArray).size = l.length := fun l => rfl
  have h : x.data.toList.length = x.size := by rw [Array.length_toList]; rfl
  split
  · exact ⟨by rw [← h]; exact Nat.le_trans (Nat.le_of_eq (List.length_take)) (Nat.min_le_right _ _), by rw [← h]; exact Nat.le_trans (Nat.le_of_eq (List.length_drop)) (Nat.sub_le _ _)⟩
  · exact ⟨by rw [← h]; exact Nat.le_refl _, Nat.zero_le _⟩
/-- the span that a piece tells -/
def oneP (x : ByteArray) : Option S31 :=
  if atoiO (cut1 x) = true ∧ (cutH x = true → atoiO (cut2 x) = true) then some ⟨atoiV (cut1 x), if cutH x then atoiV (cut2 x) else atoiV (cut1 x)⟩ else none
/-- the spans of the pieces up to the first that tells none -/
def readL : List ByteArray → List S31
  | [] => []
  | x :: r => match oneP x with | some s => s :: readL r | none => []
/-- do all tell one? -/
def okL (l : List ByteArray) : Prop := ∀ x ∈ l, (oneP x).isSome = true
theorem readL_app : ∀ {l : List ByteArray} (m : List ByteArray), okL l → readL (l ++ m) = readL l ++ readL m
  | [], m, _ => rfl
  | x :: l, m, h => by
    have hx := h x (by simp)
    rw [List.cons_append, readL, readL]
    cases ho : oneP x with
    | none => rw [ho] at hx; simp at hx
    | some s => simp only; rw [readL_app m (fun y hy => h y (by simp [hy]))]; rfl
theorem readL_len : ∀ l : List ByteArray, (readL l).length ≤ l.length
  | [] => by simp [readL]
  | x :: l => by
    have := readL_len l
    rw [readL]
    split
    · simp; exact this
    · simp
def readP (s : ByteArray) : List S31 × Bool := if mayB (readL (cutB s)) = true ∧ textS (readL (cutB s)) = s then (readL (cutB s), true) else ([], false)
theorem R_cells {w : World} {base : Nat} {v : Value} {l : List S31} (h : w.ownsRow base 31 2 v l.length (l.flatMap encSp)) : Kd.R k31 31 w base (fun _ => True) v l := by
  refine ⟨fun _ _ => trivial, l.flatMap encSp, h, ?_⟩
  have key : ∀ l : List S31, Reps (k31.M w base (fun k => True ∧ some k ≠ v.ownBlock)) 2 l (l.flatMap encSp) := by
    intro l
    induction l with
    | nil => exact Reps.none _ _
    | cons a l ih =>
      refine ⟨by rw [List.flatMap_cons, List.length_append, ih.1, List.length_cons]; show 2 + _ = _; omega, fun j p hj => ?_⟩
      cases j with
      | zero =>
        obtain rfl : a = p := by simpa using hj
        show k31.M w base _ a ((((encSp a) ++ l.flatMap encSp).drop (0 * 2)).take 2)
        exact k31_mkM _ _ _ a
      | succ j =>
        have := ih.2 j p (by simpa using hj)
        rw [List.flatMap_cons, show (j + 1) * 2 = (encSp a).length + j * 2 by show _ = 2 + _; omega, ← List.drop_drop, List.drop_left]
        exact this
  exact key l
theorem KeepsOthers.of_below {W W' : World} (h : Below W.heap.size W W') : KeepsOthers W W' :=
  ⟨h.size, fun k _ hk _ => (h.block k (lt_of_heap hk)).trans hk⟩
theorem info31_parts : ∃ i, Tryd.prog.info? 31 = some i ∧ i.zero = some (.agg #[.int .i64 0, .int .i64 0]) ∧ i.size = 2 ∧ i.bytes = 16 := by
  have h : (Tryd.prog.info? 31).map (fun i => (i.zero, i.size, i.bytes)) = some (some (.agg #[.int .i64 0, .int .i64 0]), 2, 16) := by kernel_rfl
  cases ho : Tryd.prog.info? 31 with
  | none => rw [ho] at h; cases h
  | some i => rw [ho] at h; simp only [Option.map_some, Option.some.injEq, Prod.mk.injEq] at h; exact ⟨i, rfl, h.1, h.2.1, h.2.2⟩

set_option maxRecDepth 100000 in
set_option maxHeartbeats 4000000 in
theorem read_any (s : ByteArray) (hs : s.size ≤ 1000000) (w : World) (hW : Wd w) :
    Calls Tryd.prog 10 #[.string s] w fun e w' => ∃ v, e = .returned (.tuple #[v, .bool (readP s).2]) ∧ Kd.R k31 31 w' w.heap.size (fun _ => True) v (readP s).1 ∧ Below w.heap.size w w' := by
  obtain ⟨i0, hi, hz0, hz1, hz2⟩ := info31_parts
  obtain ⟨m, hm⟩ := hW.most
  have hgl := World.block_lt_of_cell? w _ hm
  dsimp only at hgl
  refine (callsIn_wide (n := 6)).1 ?_
  have h1 : 1 ≤ 6 := by omega
  refine callsIn_of_wp_marks Tryd.func10 rfl trivial ?_ rfl
  simp only [Tryd.ntmps10, List.size_toArray, List.length_cons, List.length_nil, Nat.reduceAdd, Nat.reduceSub, Array.replicate_succ, Array.replicate_zero, List.push_toArray, List.append_toArray, List.nil_append, List.cons_append]
  have bO := Boxed.new w 23 (.slice none 0 0)
  have hsp := fun W => split_any s W
  gi_wp2_with fail
  refine ⟨trivial, (callsIn_wide.2 (hsp _)).mono ?_⟩
  rintro e w1 ⟨rfl, hw1⟩
  clear hsp
  have hsz1 : w1.heap.size = w.heap.size + 4 := by rw [hw1]; simp
  have hb1 : Below w.heap.size w w1 := by rw [hw1]; exact ((((Below.refl _ w).alloc (Nat.le_refl _) _).alloc (by simp) _).alloc (by simp; omega) _).alloc (by simp; omega) _
  have bO1 : Boxed w1 w.heap.size 23 (.slice none 0 0) := by rw [hw1]; exact ((bO.alloc _).alloc _).alloc _
  have bS1 : Boxed w1 (w.heap.size + 1) 9 (.string s) := by
    rw [hw1]
    have := Boxed.new (w.alloc (.cells #[.slice none 0 0] 23)) 9 (.string s)
    rw [World.size_alloc] at this; exact (this.alloc _).alloc _
  have bP1 : Boxed w1 (w.heap.size + 1 + 1) 9 (.string ⟨#[44]⟩) := by
    rw [hw1]
    have := Boxed.new ((w.alloc (.cells #[.slice none 0 0] 23)).alloc (.cells #[.string s] 9)) 9 (.string ⟨#[44]⟩)
    rw [World.size_alloc, World.size_alloc] at this; exact this.alloc _
  have bZ1 : Boxed w1 (w.heap.size + 1 + 1 + 1) 3 (.int .i64 0) := by
    rw [hw1]
    have := Boxed.new (((w.alloc (.cells #[.slice none 0 0] 23)).alloc (.cells #[.string s] 9)).alloc (.cells #[.string ⟨#[44]⟩] 9)) 3 (.int .i64 0)
    rw [World.size_alloc, World.size_alloc, World.size_alloc] at this; exact this
  clear hw1 bO
  obtain ⟨T, hT⟩ : ∃ T : Nat → Prop, T = (fun k => k = w.heap.size ∨ w.heap.size + 4 ≤ k) := ⟨_, rfl⟩
  obtain ⟨T2, hT2⟩ : ∃ T2 : Nat → Prop, T2 = (fun k => w.heap.size ≤ k) := ⟨_, rfl⟩
  have hTT : ∀ k, T k → T2 k := by rw [hT, hT2]; intro k hk; omega
  have hm1 : w1.cell? ⟨0, 0, none⟩ = some (.int .i64 m) := (Stir.of_below hb1 (fun _ => False)).cell hm (fun e => e)
  have hseq := commas_seq T (w.heap.size + 1 + 1) (w.heap.size + 1) (w.heap.size + 1 + 1 + 1) m (by omega) (by omega) (by omega) (by rw [hT]; omega) (by rw [hT]; omega) (by rw [hT]; omega) (by rw [hT]; omega) 5 (by omega) s (by omega) w1 bP1 bS1 bZ1 hm1
  have hlen := cutB_len s
  clear bP1 bS1 bZ1 hm1
  have hO : ∀ A B, Own1 (w.heap.size + 1) A B → Stir (fun k => k = w.heap.size + 1) A B := fun A B h => h.1
  gi_wp2_with fail
  refine wpIn_rangeFunc_T rfl h1 (gf := 59) (lb := #[.pointer (some ⟨w.heap.size + 1 + 1, 0, none⟩), .pointer (some ⟨w.heap.size + 1, 0, none⟩), .pointer (some ⟨w.heap.size + 1 + 1 + 1, 0, none⟩)]) rfl trivial (enters_of Tryd.func59 (by kernel_rfl) rfl)
    hseq (own1_plain _) stirK_t (stirK_b (by rw [hT]; intro k hk; omega)) (Below.refl _ _) (fun _ => rfl)
    (fun pre W => ((∃ v, Boxed W w.heap.size 23 v ∧ W.ownsRow (w.heap.size + 4) 31 2 v (readL (pre.map (·.1))).length ((readL (pre.map (·.1))).flatMap encSp) ∧ True) ∧ Stir T2 w1 W) ∧ okL (pre.map (·.1)))
    (fun c pre W => ((∃ v, Boxed W w.heap.size 23 v ∧ W.ownsRow (w.heap.size + 4) 31 2 v (readL (pre.map (·.1))).length ((readL (pre.map (·.1))).flatMap encSp) ∧ True) ∧ Stir T2 w1 W) ∧ (c = .exit 0 ∧ ∀ t, readL (pre.map (·.1) ++ t) = readL (pre.map (·.1))))
    (OwnFrom.and (OwnFrom.and (Own.from (holdsRow_own (w.heap.size + 4) w.heap.size 23 31 2 (fun pre : List Pc => (readL (pre.map (·.1))).length) (fun pre => (readL (pre.map (·.1))).flatMap encSp) (fun _ _ => True)) _) (ownFrom_stir w1 (by rw [hT2]; intro k hk; omega))) (ownFrom_pure' _))
    (fun c => OwnFrom.and (OwnFrom.and (Own.from (holdsRow_own (w.heap.size + 4) w.heap.size 23 31 2 (fun pre : List Pc => (readL (pre.map (·.1))).length) (fun pre => (readL (pre.map (·.1))).flatMap encSp) (fun _ _ => True)) _) (ownFrom_stir w1 (by rw [hT2]; intro k hk; omega))) (ownFrom_pure' _)) ?abides ?abidesx
    ⟨⟨⟨_, bO1, World.ownsRow_nil _ _ _ _, trivial⟩, Stir.refl _ _⟩, fun x hx => by cases hx⟩
    (fun x => { tmps := #[.string s, undef, .slice none 0 0, .bool false, .pointer (some ⟨w.heap.size, 0, none⟩), .string x.1, undef, undef, undef, undef, undef, undef, undef, .string s, .func (.func 59) #[] #[.pointer (some ⟨w.heap.size + 1 + 1, 0, none⟩), .pointer (some ⟨w.heap.size + 1, 0, none⟩), .pointer (some ⟨w.heap.size + 1 + 1 + 1, 0, none⟩)], .string x.1, undef, undef, undef, undef, undef, undef, undef, undef, undef, undef, undef, undef, undef, undef, undef, undef, undef, undef, undef, undef, undef, undef, undef, undef, undef, undef, undef, undef, undef, undef, undef, undef, undef, undef, undef, undef, undef, undef, undef, undef, undef], defers := [] }) ?assign ?body ?done ?stop
  case abides =>
    rintro p X Y ⟨⟨⟨v, h1, h2, _⟩, h3⟩, h4⟩ hr
    have hs := hO _ _ hr
    refine ⟨⟨⟨v, boxed_stir h1 hs (by omega), hs.owns h2 (fun k hk => ?_), trivial⟩, h3.trans hs (fun i _ e => by rw [hT2]; omega)⟩, h4⟩
    have := (h2.lt k hk).1
    omega
  case abidesx =>
    rintro c p X Y ⟨⟨⟨v, h1, h2, _⟩, h3⟩, h4⟩ hr
    have hs := hO _ _ hr
    refine ⟨⟨⟨v, boxed_stir h1 hs (by omega), hs.owns h2 (fun k hk => ?_), trivial⟩, h3.trans hs (fun i _ e => by rw [hT2]; omega)⟩, h4⟩
    have := (h2.lt k hk).1
    omega
  case assign =>
    intro l x W K hK
    gi_wp2
    exact hK
  case body =>
    rintro l pre x W ⟨⟨⟨v, hv, hrow, _⟩, hS⟩, hok⟩ hlen2
    have hsz : w1.heap.size ≤ W.heap.size := hS.size
    have hWb : Below w.heap.size w W := hb1.trans (hS.below (by omega) (by rw [hT2]; intro k h; exact h))
    have hWW : Wd W := hW.of hWb
    obtain ⟨m', hm'⟩ := hWW.most
    have hrl := readL_len (pre.map (·.1))
    rw [List.length_map] at hrl
    have hcs := cut_sizes x.1
    have hxs := x.2
    have hTb : ∀ i, w.heap.size + 4 ≤ i → T i := by intro k hk; rw [hT]; exact .inr hk
    have hTB : T w.heap.size := by rw [hT]; exact .inl rfl
    have hCut : Calls Tryd.prog 30 #[.string x.1, .string ⟨#[45]⟩] W fun e w' => e = .returned (.tuple #[.string (cut1 x.1), .string (cut2 x.1), .bool (cutH x.1)]) ∧ ∃ n, w' = W.drewN n := Tryd.strings_Cut x.1 ⟨#[45]⟩ m' W (by omega) hm'
    have hA : ∀ w', Below W.heap.size W w' → _ := fun w' hb => atoi_err (cut1 x.1) (by omega) w' (hWW.of hb)
    have hA2 : ∀ w', Below W.heap.size W w' → _ := fun w' hb => atoi_err (cut2 x.1) (by omega) w' (hWW.of hb)
    have HRL : Hid (∀ sp, oneP x.1 = some sp → readL ((pre ++ [x]).map (·.1)) = readL (pre.map (·.1)) ++ [sp]) := Lib.hid fun sp h => by rw [List.map_append, readL_app _ hok]; show _ ++ readL [x.1] = _; rw [readL, h]; rfl
    have HNO : Hid (oneP x.1 = none → readL ((pre ++ [x]).map (·.1)) = readL (pre.map (·.1))) := Lib.hid fun h => by rw [List.map_append, readL_app _ hok]; show _ ++ readL [x.1] = _; rw [readL, h, List.append_nil]
    have HOK : Hid ((oneP x.1).isSome = true → okL ((pre ++ [x]).map (·.1))) := Lib.hid fun h y hy => by
      rw [List.map_append] at hy
      rcases List.mem_append.1 hy with hy | hy
      · exact hok y hy
      · obtain rfl : y = x.1 := by simpa using hy
        exact h
    have HOKP := Lib.hid hok
    clear hok hm' hWb
    gi_wp2_with fail
    refine ⟨trivial, ((callsIn_wide.2 hCut).inRound l).mono ?_⟩
    rintro e w3 ⟨rfl, nq, hw3⟩
    have hB3 : Below W.heap.size W w3 := by rw [hw3]; exact ((Stir.refl (fun _ => False) W).drewN nq).below (Nat.le_refl _) (fun _ e => e.elim)
    clear hCut hw3
    gi_wp2_with fail
    refine ⟨trivial, ((callsIn_wide.2 (hA _ hB3)).inRound l).mono ?_⟩
    rintro e w4 ⟨ev, rfl, he1, he2, hB4⟩
    have HBX := Lib.hid (hB3.trans (hB4.mono hB3.size))
    clear hA hB3 hB4
    cases hH : cutH x.1 with
    | false =>
      cases ho : atoiO (cut1 x.1) with
      | false =>
        have HP : Hid (oneP x.1 = none) := Lib.hid (by unfold oneP; rw [if_neg (by rw [ho]; simp)])
        obtain ⟨te, pe, rfl⟩ := he2 ho
        clear he1 he2 hA2 ho
        have hv0 := boxed_stir hv (Stir.of_below HBX.out (fun _ => False)) (fun e => e)
        have hrowx := (Stir.of_below HBX.out (fun _ => False)).owns hrow (fun _ _ e => e)
        have Hq := Lib.hid (And.intro hv0 hrowx)
        clear hv hrow hv0 hrowx
        gi_wp2
        obtain ⟨b1, b2⟩ := Hq.out
        refine ⟨(KeepsOthers.of_below HBX.out).from _, ⟨⟨_, b1, ?_, trivial⟩, hS.trans (Stir.of_below HBX.out (fun _ => False)) (fun _ _ e => e.elim)⟩, rfl, ?_⟩
        · rw [HNO.out HP.out]; exact b2
        · intro t; rw [HNO.out HP.out, List.map_append, List.append_assoc, readL_app _ HOKP.out]; show _ ++ readL (x.1 :: t) = _; rw [readL, HP.out, List.append_nil]
      | true =>
        have HP : Hid (oneP x.1 = some ⟨atoiV (cut1 x.1), atoiV (cut1 x.1)⟩) := Lib.hid (by unfold oneP; rw [if_pos ⟨ho, by rw [hH]; simp⟩, hH]; rfl)
        obtain rfl := he1 ho
        clear he1 he2 hA2 ho
        have hv0 := (boxed_stir hv (Stir.of_below HBX.out (fun _ => False)) (fun e => e)).alloc (.cells #[.int .i64 (atoiV (cut1 x.1)), .int .i64 (atoiV (cut1 x.1))] 31)
        have hf0 := hv0.frozen
        have hc := (boxed_stir hv (Stir.of_below HBX.out (fun _ => False)) (fun e => e)).cell
        have hrowx := (Stir.of_below HBX.out (fun _ => False)).owns hrow (fun _ _ e => e)
        have hrow0 := hrowx.kept (World.grownBy_alloc w4 (.cells #[.int .i64 (atoiV (cut1 x.1)), .int .i64 (atoiV (cut1 x.1))] 31) none) (by cases h : v.ownBlock with | none => exact .inl rfl | some _ => exact .inr (by simp))
        have hS0 : Stir T W (w4.alloc (.cells #[.int .i64 (atoiV (cut1 x.1)), .int .i64 (atoiV (cut1 x.1))] 31)) := (Stir.of_below HBX.out T).alloc _
        have hK0 : KeepsOthers W (w4.alloc (.cells #[.int .i64 (atoiV (cut1 x.1)), .int .i64 (atoiV (cut1 x.1))] 31)) := (KeepsOthers.of_below HBX.out).trans (KeepsOthers.alloc _ _)
        have hx : ∀ j u, ([.int .i64 (atoiV (cut1 x.1)), .int .i64 (atoiV (cut1 x.1))] : List Value)[j]? = some u → (w4.alloc (.cells #[.int .i64 (atoiV (cut1 x.1)), .int .i64 (atoiV (cut1 x.1))] 31)).cell? ((⟨w4.heap.size, 0, none⟩ : Addr).add j) = some u := by
          intro j u hj
          match j, hj with
          | 0, hj => cases hj; show (w4.alloc _).cell? ⟨w4.heap.size, 0, none⟩ = _; unfold World.cell?; rw [heap_alloc_new]; rfl
          | 1, hj => cases hj; show (w4.alloc _).cell? ⟨w4.heap.size, 0 + 1, none⟩ = _; unfold World.cell?; rw [heap_alloc_new]; rfl
          | j + 2, hj => simp at hj
        have hzx : w.heap.size + 4 ≤ w4.heap.size := by have := HBX.out.size; omega
        gi_wp2_with (gi_at_builtin; go_loud (refine wpListIn_append_own (w4.alloc (.cells #[.int .i64 (atoiV (cut1 x.1)), .int .i64 (atoiV (cut1 x.1))] 31)) rfl (.tmp 41) (.tmp 45) 23 rfl (w.heap.size + 4) 31 i0 (.agg #[.int .i64 0, .int .i64 0]) 2 16 Tryd.underlying23 hi hz0 hz1 hz2 rfl (by decide) _ _ _ rfl hrow0 ⟨w4.heap.size, 0, none⟩ 1 1 [.int .i64 (atoiV (cut1 x.1)), .int .i64 (atoiV (cut1 x.1))] rfl rfl hx (by intro u hu; simp at hu; rcases hu with rfl | rfl <;> rfl) (by unfold maxLen; omega) (by omega) (by simp; omega) ?_))
        intro v' w7 hown hgrow _
        obtain ⟨b1, b2, b3, b4, b5⟩ := Cav.Boxed.app hv (by decide) hrow hK0 hS0 hv0 hrow0 hTB hTb hown hgrow
        obtain ⟨a3, c3, rfl⟩ := owns_slice hown
        have m1 := b1.cell
        have m2 := b1.frozen
        have Hq := Lib.hid (And.intro b2 (And.intro b3 (And.intro b4 b5)))
        clear hown hgrow hrow b1 b2 b3 b4 b5 hc hv hv0 hrow0 hrowx hS0 hK0 hx hf0 HBX
        gi_wp2
        obtain ⟨b2, b3, b4, b5⟩ := Hq.out
        refine ⟨b4.from _, b5, ⟨⟨_, b2, ?_, trivial⟩, hS.trans b5 (fun i _ e => hTT i e)⟩, ?_⟩
        · rw [HRL.out _ HP.out]
          simpa [encSp] using b3
        · exact HOK.out (by rw [HP.out]; rfl)
    | true =>
      gi_wp2_with fail
      refine ⟨trivial, ((callsIn_wide.2 (hA2 _ HBX.out)).inRound l).mono ?_⟩
      rintro e w5 ⟨ev2, rfl, hg1, hg2, hB5⟩
      have HBY := Lib.hid (HBX.out.trans (hB5.mono HBX.out.size))
      clear HBX hB5 hA2
      have HBX := HBY
      clear HBY
      cases ho : atoiO (cut1 x.1) with
      | false =>
        have HP : Hid (oneP x.1 = none) := Lib.hid (by unfold oneP; rw [if_neg (by rw [ho]; simp)])
        obtain ⟨te, pe, rfl⟩ := he2 ho
        clear he1 he2 hg1 hg2 ho
        have hv0 := boxed_stir hv (Stir.of_below HBX.out (fun _ => False)) (fun e => e)
        have hrowx := (Stir.of_below HBX.out (fun _ => False)).owns hrow (fun _ _ e => e)
        have Hq := Lib.hid (And.intro hv0 hrowx)
        clear hv hrow hv0 hrowx
        gi_wp2
        obtain ⟨b1, b2⟩ := Hq.out
        refine ⟨(KeepsOthers.of_below HBX.out).from _, ⟨⟨_, b1, ?_, trivial⟩, hS.trans (Stir.of_below HBX.out (fun _ => False)) (fun _ _ e => e.elim)⟩, rfl, ?_⟩
        · rw [HNO.out HP.out]; exact b2
        · intro t; rw [HNO.out HP.out, List.map_append, List.append_assoc, readL_app _ HOKP.out]; show _ ++ readL (x.1 :: t) = _; rw [readL, HP.out, List.append_nil]
      | true =>
        obtain rfl := he1 ho
        cases ho2 : atoiO (cut2 x.1) with
        | false =>
          have HP : Hid (oneP x.1 = none) := Lib.hid (by unfold oneP; rw [if_neg (by rw [hH, ho2]; simp)])
          obtain ⟨te, pe, rfl⟩ := hg2 ho2
          clear he1 he2 hg1 hg2 ho ho2
          have hv0 := boxed_stir hv (Stir.of_below HBX.out (fun _ => False)) (fun e => e)
          have hrowx := (Stir.of_below HBX.out (fun _ => False)).owns hrow (fun _ _ e => e)
          have Hq := Lib.hid (And.intro hv0 hrowx)
          clear hv hrow hv0 hrowx
          gi_wp2
          obtain ⟨b1, b2⟩ := Hq.out
          refine ⟨(KeepsOthers.of_below HBX.out).from _, ⟨⟨_, b1, ?_, trivial⟩, hS.trans (Stir.of_below HBX.out (fun _ => False)) (fun _ _ e => e.elim)⟩, rfl, ?_⟩
          · rw [HNO.out HP.out]; exact b2
          · intro t; rw [HNO.out HP.out, List.map_append, List.append_assoc, readL_app _ HOKP.out]; show _ ++ readL (x.1 :: t) = _; rw [readL, HP.out, List.append_nil]
        | true =>
          have HP : Hid (oneP x.1 = some ⟨atoiV (cut1 x.1), atoiV (cut2 x.1)⟩) := Lib.hid (by unfold oneP; rw [if_pos ⟨ho, fun _ => ho2⟩, hH]; rfl)
          obtain rfl := hg1 ho2
          clear he1 he2 hg1 hg2 ho ho2
          have hv0 := (boxed_stir hv (Stir.of_below HBX.out (fun _ => False)) (fun e => e)).alloc (.cells #[.int .i64 (atoiV (cut1 x.1)), .int .i64 (atoiV (cut2 x.1))] 31)
          have hf0 := hv0.frozen
          have hc := (boxed_stir hv (Stir.of_below HBX.out (fun _ => False)) (fun e => e)).cell
          have hrowx := (Stir.of_below HBX.out (fun _ => False)).owns hrow (fun _ _ e => e)
          have hrow0 := hrowx.kept (World.grownBy_alloc w5 (.cells #[.int .i64 (atoiV (cut1 x.1)), .int .i64 (atoiV (cut2 x.1))] 31) none) (by cases h : v.ownBlock with | none => exact .inl rfl | some _ => exact .inr (by simp))
          have hS0 : Stir T W (w5.alloc (.cells #[.int .i64 (atoiV (cut1 x.1)), .int .i64 (atoiV (cut2 x.1))] 31)) := (Stir.of_below HBX.out T).alloc _
          have hK0 : KeepsOthers W (w5.alloc (.cells #[.int .i64 (atoiV (cut1 x.1)), .int .i64 (atoiV (cut2 x.1))] 31)) := (KeepsOthers.of_below HBX.out).trans (KeepsOthers.alloc _ _)
          have hx : ∀ j u, ([.int .i64 (atoiV (cut1 x.1)), .int .i64 (atoiV (cut2 x.1))] : List Value)[j]? = some u → (w5.alloc (.cells #[.int .i64 (atoiV (cut1 x.1)), .int .i64 (atoiV (cut2 x.1))] 31)).cell? ((⟨w5.heap.size, 0, none⟩ : Addr).add j) = some u := by
            intro j u hj
            match j, hj with
            | 0, hj => cases hj; show (w5.alloc _).cell? ⟨w5.heap.size, 0, none⟩ = _; unfold World.cell?; rw [heap_alloc_new]; rfl
            | 1, hj => cases hj; show (w5.alloc _).cell? ⟨w5.heap.size, 0 + 1, none⟩ = _; unfold World.cell?; rw [heap_alloc_new]; rfl
            | j + 2, hj => simp at hj
          have hzx : w.heap.size + 4 ≤ w5.heap.size := by have := HBX.out.size; omega
          gi_wp2_with (gi_at_builtin; go_loud (refine wpListIn_append_own (w5.alloc (.cells #[.int .i64 (atoiV (cut1 x.1)), .int .i64 (atoiV (cut2 x.1))] 31)) rfl (.tmp 41) (.tmp 45) 23 rfl (w.heap.size + 4) 31 i0 (.agg #[.int .i64 0, .int .i64 0]) 2 16 Tryd.underlying23 hi hz0 hz1 hz2 rfl (by decide) _ _ _ rfl hrow0 ⟨w5.heap.size, 0, none⟩ 1 1 [.int .i64 (atoiV (cut1 x.1)), .int .i64 (atoiV (cut2 x.1))] rfl rfl hx (by intro u hu; simp at hu; rcases hu with rfl | rfl <;> rfl) (by unfold maxLen; omega) (by omega) (by simp; omega) ?_))
          intro v' w7 hown hgrow _
          obtain ⟨b1, b2, b3, b4, b5⟩ := Cav.Boxed.app hv (by decide) hrow hK0 hS0 hv0 hrow0 hTB hTb hown hgrow
          obtain ⟨a3, c3, rfl⟩ := owns_slice hown
          have m1 := b1.cell
          have m2 := b1.frozen
          have Hq := Lib.hid (And.intro b2 (And.intro b3 (And.intro b4 b5)))
          clear hown hgrow hrow b1 b2 b3 b4 b5 hc hv hv0 hrow0 hrowx hS0 hK0 hx hf0 HBX
          gi_wp2
          obtain ⟨b2, b3, b4, b5⟩ := Hq.out
          refine ⟨b4.from _, b5, ⟨⟨_, b2, ?_, trivial⟩, hS.trans b5 (fun i _ e => hTT i e)⟩, ?_⟩
          · rw [HRL.out _ HP.out]
            simpa [encSp] using b3
          · exact HOK.out (by rw [HP.out]; rfl)
  case done =>
    rintro D ys W W0 hD hxs hWe ⟨⟨⟨v, hv, hrow, _⟩, hS⟩, hok⟩ hK
    have hl : readL (cutB s) = readL (ys.map (·.1)) := by rw [show ys.map (·.1) = cutB s from hxs]
    have hsz : w1.heap.size ≤ W.heap.size := hS.size
    have hWb : Below w.heap.size w W := hb1.trans (hS.below (by omega) (by rw [hT2]; intro k h; exact h))
    have hWW : Wd W := hW.of hWb
    have hLl := readL_len (cutB s)
    have HRP : Hid (readP s = if mayB (readL (cutB s)) = true ∧ textS (readL (cutB s)) = s then (readL (cutB s), true) else ([], false)) := Lib.hid rfl
    rw [← hl] at hrow
    generalize readL (cutB s) = L at hrow hLl HRP
    have HFIN : Hid (∀ w4, Below W.heap.size W w4 → w4.heap[D]? = some (.deferred (some [])) ∧ Below w.heap.size w (w4.putObj D (.deferred none)) ∧ Kd.R k31 31 (w4.putObj D (.deferred none)) w.heap.size (fun _ => True) v L) := Lib.hid fun w4 hb => by
      have hK4 : w4.heap[D]? = some (.deferred (some [])) := (hb.block D (lt_of_heap hK)).trans hK
      refine ⟨hK4, hb1.trans (((hS.trans (Stir.of_below hb (fun _ => False)) (fun _ _ e => e.elim)).trans (stirK_b (T := T2) (w := w1) (by rw [hT2]; intro k hk; omega) w4 D _ (.deferred none) (by omega) hK4 rfl rfl) (fun _ _ e => e)).below (by omega) (by rw [hT2]; intro k h; omega)), Kd.R_lower (R_cells (((Stir.of_below hb (fun _ => False)).owns hrow (fun _ _ e => e)).kept (grownBy_putObj' w4 D _) ?_)) (by omega)⟩
      cases hv' : v.ownBlock with
      | none => exact .inl rfl
      | some k =>
        refine .inr fun e' => ?_
        obtain rfl : k = D := by simpa using e'
        obtain ⟨cells, hcells⟩ := own_typed hrow k hv'
        rw [hK] at hcells; cases hcells
    obtain ⟨A, c, rfl⟩ := owns_slice hrow
    have hrd := Kd.R_reads' (R_cells hrow)
    have hMay := may_any A c L W hrd.2.2 hrd.2.1 (by omega)
    have hTx : ∀ w', Below W.heap.size W w' → _ := fun w' hb => text_any A c L w' (Kd.C_below hrd.2.2 hb) hrd.2.1 (by omega) (hWW.of hb)
    have hc := hv.cell
    clear hv hrow hrd hS hK hl hxs hWe hok hsz hWb hWW
    gi_wp2_with fail
    refine ⟨trivial, (callsIn_wide.2 hMay).mono ?_⟩
    rintro e w3 ⟨rfl, hB3⟩
    have hc3 := (Stir.of_below hB3 (fun _ => False)).cell hc (fun e => e)
    clear hc hMay
    have HB3 := Lib.hid hB3
    cases hmb : mayB L with
    | false =>
      clear hTx hB3
      gi_wp2_with fail
      refine ⟨trivial, ?_⟩
      gi_wp2
      obtain ⟨hK4, hB4, _⟩ := HFIN.out _ HB3.out
      refine ⟨by simp, .inl ⟨_, _, rfl, run_takeDeferred hK4, ?_⟩⟩
      rw [HRP.out, if_neg (by rw [hmb]; simp)]
      exact ⟨_, results_tmp2 rfl _ _ _, _, rfl, Kd.R_nil _ _ _ _ _, hB4⟩
    | true =>
      gi_wp2_with fail
      refine ⟨trivial, (callsIn_wide.2 (hTx _ hB3)).mono ?_⟩
      rintro e w4 ⟨rfl, hB4⟩
      have hc4 := (Stir.of_below hB4 (fun _ => False)).cell hc3 (fun e => e)
      have HB4 := Lib.hid (HB3.out.trans (hB4.mono HB3.out.size))
      clear hTx hB3 hB4 hc3
      by_cases hts : textS L = s
      · have hq : ((textS L).toList == s.toList) = true := by rw [hts]; simp
        rw [hts] at hq ⊢
        gi_wp2
        obtain ⟨hK4, hB4, hR4⟩ := HFIN.out _ HB4.out
        refine ⟨by simp, .inl ⟨_, _, rfl, run_takeDeferred hK4, ?_⟩⟩
        rw [HRP.out, if_pos ⟨hmb, hts⟩]
        exact ⟨_, results_tmp2 rfl _ _ _, _, rfl, hR4, hB4⟩
      · have hq : ((textS L).toList == s.toList) = false := by rw [beq_eq_false_iff_ne]; exact fun h => hts (Go.Pk.toList_inj h)
        gi_wp2
        obtain ⟨hK4, hB4, _⟩ := HFIN.out _ HB4.out
        refine ⟨by simp, .inl ⟨_, _, rfl, run_takeDeferred hK4, ?_⟩⟩
        rw [HRP.out, if_neg (fun h => hts h.2)]
        exact ⟨_, results_tmp2 rfl _ _ _, _, rfl, Kd.R_nil _ _ _ _ _, hB4⟩
  case stop =>
    rintro D c pre W W0 hD hpre ⟨⟨⟨v, hv, hrow, _⟩, hS⟩, rfl, hst⟩ hK
    have hl : readL (cutB s) = readL (pre.map (·.1)) := by
      obtain ⟨t, ht⟩ := (show pre.map (·.1) <+: cutB s from hpre)
      rw [← ht]; exact hst t
    have hsz : w1.heap.size ≤ W.heap.size := hS.size
    have hWb : Below w.heap.size w W := hb1.trans (hS.below (by omega) (by rw [hT2]; intro k h; exact h))
    have hWW : Wd W := hW.of hWb
    have hLl := readL_len (cutB s)
    have HRP : Hid (readP s = if mayB (readL (cutB s)) = true ∧ textS (readL (cutB s)) = s then (readL (cutB s), true) else ([], false)) := Lib.hid rfl
    rw [← hl] at hrow
    generalize readL (cutB s) = L at hrow hLl HRP
    have HFIN : Hid (∀ w4, Below W.heap.size W w4 → w4.heap[D]? = some (.deferred (some [])) ∧ Below w.heap.size w (w4.putObj D (.deferred none)) ∧ Kd.R k31 31 (w4.putObj D (.deferred none)) w.heap.size (fun _ => True) v L) := Lib.hid fun w4 hb => by
      have hK4 : w4.heap[D]? = some (.deferred (some [])) := (hb.block D (lt_of_heap hK)).trans hK
      refine ⟨hK4, hb1.trans (((hS.trans (Stir.of_below hb (fun _ => False)) (fun _ _ e => e.elim)).trans (stirK_b (T := T2) (w := w1) (by rw [hT2]; intro k hk; omega) w4 D _ (.deferred none) (by omega) hK4 rfl rfl) (fun _ _ e => e)).below (by omega) (by rw [hT2]; intro k h; omega)), Kd.R_lower (R_cells (((Stir.of_below hb (fun _ => False)).owns hrow (fun _ _ e => e)).kept (grownBy_putObj' w4 D _) ?_)) (by omega)⟩
      cases hv' : v.ownBlock with
      | none => exact .inl rfl
      | some k =>
        refine .inr fun e' => ?_
        obtain rfl : k = D := by simpa using e'
        obtain ⟨cells, hcells⟩ := own_typed hrow k hv'
        rw [hK] at hcells; cases hcells
    obtain ⟨A, c, rfl⟩ := owns_slice hrow
    have hrd := Kd.R_reads' (R_cells hrow)
    have hMay := may_any A c L W hrd.2.2 hrd.2.1 (by omega)
    have hTx : ∀ w', Below W.heap.size W w' → _ := fun w' hb => text_any A c L w' (Kd.C_below hrd.2.2 hb) hrd.2.1 (by omega) (hWW.of hb)
    have hc := hv.cell
    clear hv hrow hrd hS hK hl hpre hst hsz hWb hWW
    gi_wp2_with fail
    refine ⟨trivial, (callsIn_wide.2 hMay).mono ?_⟩
    rintro e w3 ⟨rfl, hB3⟩
    have hc3 := (Stir.of_below hB3 (fun _ => False)).cell hc (fun e => e)
    clear hc hMay
    have HB3 := Lib.hid hB3
    cases hmb : mayB L with
    | false =>
      clear hTx hB3
      gi_wp2_with fail
      refine ⟨trivial, ?_⟩
      gi_wp2
      obtain ⟨hK4, hB4, _⟩ := HFIN.out _ HB3.out
      refine ⟨by simp, .inl ⟨_, _, rfl, run_takeDeferred hK4, ?_⟩⟩
      rw [HRP.out, if_neg (by rw [hmb]; simp)]
      exact ⟨_, results_tmp2 rfl _ _ _, _, rfl, Kd.R_nil _ _ _ _ _, hB4⟩
    | true =>
      gi_wp2_with fail
      refine ⟨trivial, (callsIn_wide.2 (hTx _ hB3)).mono ?_⟩
      rintro e w4 ⟨rfl, hB4⟩
      have hc4 := (Stir.of_below hB4 (fun _ => False)).cell hc3 (fun e => e)
      have HB4 := Lib.hid (HB3.out.trans (hB4.mono HB3.out.size))
      clear hTx hB3 hB4 hc3
      by_cases hts : textS L = s
      · have hq : ((textS L).toList == s.toList) = true := by rw [hts]; simp
        rw [hts] at hq ⊢
        gi_wp2
        obtain ⟨hK4, hB4, hR4⟩ := HFIN.out _ HB4.out
        refine ⟨by simp, .inl ⟨_, _, rfl, run_takeDeferred hK4, ?_⟩⟩
        rw [HRP.out, if_pos ⟨hmb, hts⟩]
        exact ⟨_, results_tmp2 rfl _ _ _, _, rfl, hR4, hB4⟩
      · have hq : ((textS L).toList == s.toList) = false := by rw [beq_eq_false_iff_ne]; exact fun h => hts (Go.Pk.toList_inj h)
        gi_wp2
        obtain ⟨hK4, hB4, _⟩ := HFIN.out _ HB4.out
        refine ⟨by simp, .inl ⟨_, _, rfl, run_takeDeferred hK4, ?_⟩⟩
        rw [HRP.out, if_neg (fun h => hts h.2)]
        exact ⟨_, results_tmp2 rfl _ _ _, _, rfl, Kd.R_nil _ _ _ _ _, hB4⟩
end Go.Proofs.YtnlakdpfkgjdaaaDoor.G

/- A range over a function whose iterator writes cells of its own, and whose loop variable lies in a block of its own: a law of no program, over the kit's laws of the loop's record. No conditions. -/
namespace Go.Cav
open Go Go.RowKit
variable {F : Fence} {n : Nat} {P : Program}
theorem wpIn_rangeFunc_U {α : Type} {g : Operand} {ps : Array Tmp} {assign body : Code} {Q : Exit → Act → World → Prop} {a : Act} {w : World}
    (hro : F.round = none) (h1 : 1 ≤ n) {gf : Nat} {lb : Array Value} (hg : a.eval g = .func (.func gf) #[] lb) (hFg : F.fn gf) (eg : ∀ args w, (callFunc gf args).run P w = .ok (.enter gf args) w)
    {encs : α → Array Value} {Kp Rs : World → World → Prop} {S Sp : List α → World → Prop} {N : Nat} {w0 : World} (hseq : SeqT F (n - 1) P gf lb encs Kp Rs S Sp N w0) (hRs : Plain Rs)
    (hKt : ∀ {A B C : World}, Kp A B → Kp B C → Kp A C) (hKb : ∀ (W : World) (l : Nat) (o o' : Obj), w.heap.size ≤ l → W.heap[l]? = some o → o.isCells = false → o.isWalk = false → Kp W (W.putObj l o')) (hb0 : Below w0.heap.size w0 w) (hps : ∀ x, (encs x).size = ps.size)
    (I : List α → World → Prop) (Ix : Code → List α → World → Prop) (hI : OwnFrom w.heap.size I) (hIx : ∀ c, OwnFrom w.heap.size (Ix c)) (hIR : ∀ s A B, I s A → Rs A B → I s B) (hIxR : ∀ c s A B, Ix c s A → Rs A B → Ix c s B) (h0 : I [] w) (Ax : α → Act → World → Prop) (hAx : ∀ x a', OwnFrom w.heap.size (fun (_ : Unit) W => Ax x a' W))
    (hassign : ∀ (l : Nat) (pre : List α) (x : α) (W : World) (K : Act → World → Prop), I pre W → (∀ a' W', KeepsFrom w.heap.size W W' → Kp W W' → I pre W' → Ax x a' W' → K a' W') →
      assign.wpIn (F.inRound l) (n - 1 - 1) P (Exit.then K (fun _ _ _ => False)) { tmps := (ps.zip (encs x)).foldl (fun t (p, v) => t.setIfInBounds p v) a.tmps, defers := [] } W)
    (hbody : ∀ (l : Nat) (pre : List α) (x : α) (a' : Act) (W : World), I pre W → Ax x a' W → pre.length < N → body.wpIn (F.inRound l) (n - 1 - 1) P (ownPostG w.heap.size Kp I Ix (pre ++ [x]) W) a' W)
    (hdone : ∀ (D : Nat) (xs : List α) (W W0 : World), w.heap.size ≤ D → S xs W0 → W = W0.putObj (D + 1) (W.heap.getD (D + 1) (.deferred none)) → I xs W → W.heap[D]? = some (.deferred (some [])) → Q .normal { a with defers := { target := .collected D, args := #[] } :: a.defers } W)
    (hstop : ∀ (D : Nat) (c : Code) (pre : List α) (W W0 : World), w.heap.size ≤ D → Sp pre W0 → Ix c pre W → W.heap[D]? = some (.deferred (some [])) → c.wpIn F n P Q { a with defers := { target := .collected D, args := #[] } :: a.defers } W) :
    (Code.rangeFunc g ps assign body).wpIn F n P Q a w := by
  refine wpIn_rangeFunc fun fn hfn => ?_
  rw [hro]
  obtain ⟨L, hL⟩ : ∃ L, L = w.heap.size + 1 := ⟨_, rfl⟩
  obtain ⟨rec, hrec⟩ : ∃ rec : LoopState → Option Code → Loop, rec = fun st pe => { state := st, pending := pe, fn, tmps := a.tmps, params := ps, assign, body, defers := w.heap.size } := ⟨_, rfl⟩
  obtain ⟨V, hV⟩ : ∃ V, (w.alloc (.deferred (some []))).alloc (.loop (rec .ready none)) = V := ⟨_, rfl⟩
  have vL : V.heap[L]? = some (.loop (rec .ready none)) := by
    rw [← hV, hL]; have := World.alloc_heap_new (w.alloc (.deferred (some []))) (.loop (rec .ready none)); rwa [World.size_alloc] at this
  have vK : V.heap[w.heap.size]? = some (.deferred (some [])) := by
    rw [← hV]; exact (Below.heap_alloc _ _ _ (by simp)).trans (World.alloc_heap_new w _)
  have vI : I [] V := by rw [← hV]; exact hI.alloc _ (hI.alloc _ h0)
  have vb : Below w0.heap.size w0 V := by
    rw [← hV]; exact hb0.trans ((((Below.refl _ w).alloc (Nat.le_refl _) _).alloc (by simp) _).mono hb0.size)
  refine ⟨L, [{ target := .collected w.heap.size, args := #[] }], V, { target := .fn (.func gf) lb, args := #[.func (.yield L) #[] #[]] }, V, gf, #[.func (.yield L) #[] #[]] ++ lb, V, ?_, ?_, ?_, ?_, fun _ => h1, ?_⟩
  · rw [← hV, hrec, hL]; exact run_enterLoop_outer _ _ _ _ _
  · simp only [resolve, hg]
    simp [go_sem]
  · intro f' hf'; simp [Target.leads] at hf'; subst hf'; exact hFg
  · simp [invoke, go_sem, eg]
  refine (hseq L (fun pre W => I pre W ∧ W.heap[L]? = some (.loop (rec .ready none)) ∧ W.heap[w.heap.size]? = some (.deferred (some [])))
    (fun pre W => ∃ c, Ix c pre W ∧ W.heap[L]? = some (.loop (rec .done (some c))) ∧ W.heap[w.heap.size]? = some (.deferred (some [])))
    V vb (fun s A B hs hr => ⟨hIR s A B hs.1 hr, hRs A B _ _ hr hs.2.1 rfl rfl, hRs A B _ _ hr hs.2.2 rfl rfl⟩)
    (fun s A B ⟨c, hc, hl, hk⟩ hr => ⟨c, hIxR c s A B hc hr, hRs A B _ _ hr hl rfl rfl, hRs A B _ _ hr hk rfl rfl⟩) ?_ ⟨vI, vL, vK⟩).mono ?_
  · rintro pre x W ⟨hi, hl, hk⟩ hlen
    have hlt : L < W.heap.size := (Array.getElem?_eq_some_iff.1 hl).1
    have hy := run_yield (P := P) (args := encs x) hl (by rw [hrec]; exact hps x)
    rw [hrec] at hy
    refine ⟨fn, _, assign, body, hy, roundIn_of_wpIn hfn (hassign _ pre x W _ hi ?_)⟩
    clear hy
    intro a' Wa hkfa hkpa hia hax
    replace hl := hkfa.same _ _ (by omega) hl rfl
    replace hk := hkfa.same _ _ (Nat.le_refl _) hk rfl
    replace hlt : L < Wa.heap.size := (Array.getElem?_eq_some_iff.1 hl).1
    replace hi := hia
    clear hia hkfa
    revert hkpa
    generalize W = Wb
    intro hkpa
    obtain ⟨W, rfl⟩ : ∃ W, W = Wa := ⟨_, rfl⟩
    refine ⟨_, run_beginRound hl (by rw [hrec]), ?_⟩
    obtain ⟨B, hB⟩ : ∃ B, W.putObj L (.loop { rec .ready none with state := .busy }) = B := ⟨_, rfl⟩
    have bL : B.heap[L]? = some (.loop { rec .ready none with state := .busy }) := by rw [← hB]; exact World.putObj_heap_same hlt
    have bK : B.heap[w.heap.size]? = some (.deferred (some [])) := by rw [← hB]; exact (World.putObj_heap_other (by omega)).trans hk
    have bP : Kp W B := by rw [← hB]; exact hKb _ _ _ _ (by omega) hl rfl rfl
    have bI : I pre B := by rw [← hB]; exact hI.putObj _ hi (by omega) hl rfl
    have bA : Ax x a' B := by rw [← hB]; exact (hAx x a').putObj (s := ()) _ hax (by omega) hl rfl
    rw [hB]
    refine wpIn_mono (hbody _ pre x a' B bI bA hlen) ?_
    have fin : ∀ (jump : Option Code) (Z : World), KeepsFrom w.heap.size B Z →
        (Instr.endRound L jump).run P Z = .ok (.bool jump.isNone) (Z.putObj L (.loop (rec (if jump.isNone then .ready else .done) jump))) ∧ Z.heap[L]? = some (.loop { rec .ready none with state := .busy }) ∧
        (Z.putObj L (.loop (rec (if jump.isNone then .ready else .done) jump))).heap[L]? = some (.loop (rec (if jump.isNone then .ready else .done) jump)) ∧
        (Z.putObj L (.loop (rec (if jump.isNone then .ready else .done) jump))).heap[w.heap.size]? = some (.deferred (some [])) := by
      intro jump Z hz
      have zL := hz.same _ _ (by omega) bL rfl
      have hend := run_endRound (P := P) jump zL
      rw [hrec] at hend ⊢
      exact ⟨hend, by rw [hrec] at zL; exact zL, World.putObj_heap_same (Array.getElem?_eq_some_iff.1 zL).1, (World.putObj_heap_other (by omega)).trans (hz.same _ _ (Nat.le_refl _) bK rfl)⟩
    rintro e a3 Z hp
    cases e with
    | normal =>
      obtain ⟨hz, hkp, hi3⟩ := hp
      obtain ⟨hr, zL, zL2, zK⟩ := fin none Z hz
      exact ⟨_, _, hr, .inl ⟨rfl, ⟨hI.putObj _ hi3 (by omega) zL rfl, zL2, zK⟩, hKt hkpa (hKt (hKt bP hkp) (hKb _ _ _ _ (by omega) zL rfl rfl))⟩⟩
    | ret =>
      obtain ⟨hr, zL, zL2, zK⟩ := fin (some .ret) Z hp.1
      exact ⟨_, _, hr, .inr ⟨rfl, .ret, (hIx _).putObj _ hp.2 (by omega) zL rfl, zL2, zK⟩⟩
    | exit id =>
      obtain ⟨hr, zL, zL2, zK⟩ := fin (some (.exit id)) Z hp.1
      exact ⟨_, _, hr, .inr ⟨rfl, .exit id, (hIx _).putObj _ hp.2 (by omega) zL rfl, zL2, zK⟩⟩
    | goto t =>
      obtain ⟨hr, zL, zL2, zK⟩ := fin (some (.goto t)) Z hp.1
      exact ⟨_, _, hr, .inr ⟨rfl, .goto t, (hIx _).putObj _ hp.2 (by omega) zL rfl, zL2, zK⟩⟩
    | panic ch => exact hp.elim
    | outgrown => exact hp.elim
  · rintro e Z ⟨⟨v, rfl⟩, (⟨xs, hS, hi, hl, hk⟩ | ⟨pre, hSp, c, hi, hl, hk⟩)⟩
    · have hend := run_endLoop (P := P) hl (by rw [hrec]; simp)
      rw [hrec] at hend
      refine ⟨none, _, hend, ?_⟩
      refine hdone _ xs _ Z (Nat.le_refl _) hS ?_ (hI.putObj _ hi (by omega) hl rfl) ((World.putObj_heap_other (by omega)).trans hk)
      rw [← hL]
      congr 1
      rw [Array.getD_eq_getD_getElem?, World.putObj_heap_same (Array.getElem?_eq_some_iff.1 hl).1]; rfl
    · have hend := run_endLoop (P := P) hl (by rw [hrec]; simp)
      rw [hrec] at hend
      exact ⟨some c, _, hend, hstop _ c pre _ Z (Nat.le_refl _) hSp ((hIx c).putObj _ hi (by omega) hl rfl) ((World.putObj_heap_other (by omega)).trans hk)⟩
end Go.Cav

/- What slices.Collect makes of a list's gaps. Conditions: a bound on the list's length. -/
namespace Go.Proofs.YtnlakdpfkgjdaaaDoor.G
open Go.RowKit Go.Shelf Go.Cav Go.Proofs.YtnlakdpfkgjdaaaDoorW.PrintWords Go.Proofs.YtnlakdpfkgjdaaaDoorW.PrintLast Go.Proofs.YtnlakdpfkgjdaaaDoorW.PrintMore
attribute [local go_sem] Oper.semAt_some
theorem gaps_seq (B Bl n : Nat) (hn : 1 ≤ n) (A : Option Addr) (c : Nat) (xs : List S31) (hxs : xs.length ≤ 1000000000) (w : World)
    (hB : B < w.heap.size) (hfree : ownAt B w = none) (hbl : w.cell? ⟨Bl, 0, none⟩ = some (.slice A xs.length c)) (hC : Kd.C k31 w A xs.length xs) (hcl : xs.length ≤ c) :
    SeqT Fence.wide n Tryd.prog 57 #[.pointer (some ⟨Bl, 0, none⟩)] encS (KpB B) (fun X Y => Below X.heap.size X Y)
      (fun ys _ => ys = gapsF 0 (normS xs)) (fun pre _ => pre <+: gapsF 0 (normS xs)) (gapsF 0 (normS xs)).length w := by
  intro l J Jx W hW hJ _ hY h0
  have hs : Stir (fun _ => False) w W := Stir.of_below hW _
  exact gaps_in B Bl n hn l A c xs hxs J Jx W hJ hY (by have := hW.size; omega) (by rw [ownAt_below hW hB]; exact hfree) (hs.cell hbl (fun e => e)) (Kd.C_below hC hW) hcl h0
theorem gaps_len : ∀ (l : List S31) (a : Int), (gapsF a l).length ≤ l.length + 1
  | [], a => by unfold gapsF; split <;> simp
  | s :: r, a => by
    have := gaps_len r (s.f1 + 1)
    unfold gapsF
    split <;> simp <;> omega
set_option maxRecDepth 100000 in
set_option maxHeartbeats 4000000 in
theorem append_gaps (Bl : Nat) (A : Option Addr) (c : Nat) (xs : List S31) (hxs : xs.length ≤ 1000000000) (w : World)
    (hbl : w.cell? ⟨Bl, 0, none⟩ = some (.slice A xs.length c)) (hC : Kd.C k31 w A xs.length xs) (hcl : xs.length ≤ c) :
    Calls Tryd.prog 56 #[.slice none 0 0, .func (.func 57) #[] #[.pointer (some ⟨Bl, 0, none⟩)]] w fun e w' => ∃ v, e = .returned v ∧ Kd.R k31 31 w' w.heap.size (fun _ => True) v (gapsF 0 (normS xs)) ∧ Below w.heap.size w w' := by
  obtain ⟨i0, hi, hz0, hz1, hz2⟩ := info31_parts
  have hgl := gaps_len (normS xs) 0
  have hnl := normS_len xs
  obtain ⟨w1, hw1⟩ : ∃ w1, w1 = w.alloc (.cells #[.slice none 0 0] 23) := ⟨_, rfl⟩
  have bB : Boxed w1 w.heap.size 23 (.slice none 0 0) := by rw [hw1]; exact Boxed.new w 23 (.slice none 0 0)
  have hb1 : Below w.heap.size w w1 := by rw [hw1]; exact (Below.refl _ w).alloc (Nat.le_refl _) _
  have hsz1 : w1.heap.size = w.heap.size + 1 := by rw [hw1]; simp
  have hfree : ownAt w.heap.size w1 = none := by unfold ownAt; rw [bB.cell]; rfl
  have hseq := gaps_seq w.heap.size Bl 5 (by omega) A c xs hxs w1 (by omega) hfree ((Stir.of_below hb1 (fun _ => False)).cell hbl (fun e => e)) (Kd.C_below hC hb1) hcl
  clear hfree hbl hC
  generalize gapsF 0 (normS xs) = G at *
  refine (callsIn_wide (n := 6)).1 ?_
  have h1 : 1 ≤ 6 := by omega
  refine callsIn_of_wp_marks Tryd.func56 rfl trivial ?_ rfl
  simp only [Tryd.ntmps56, List.size_toArray, List.length_cons, List.length_nil, Nat.reduceAdd, Nat.reduceSub, Array.replicate_succ, Array.replicate_zero, List.push_toArray, List.append_toArray, List.nil_append, List.cons_append]
  have HW1 := Lib.hid hw1
  clear hw1
  gi_wp2_with fail
  rw [← HW1.out]
  obtain ⟨T2, hT2⟩ : ∃ T2 : Nat → Prop, T2 = (fun k => w.heap.size ≤ k) := ⟨_, rfl⟩
  have hB1 : w.heap.size < w1.heap.size := by omega
  refine wpIn_rangeFunc_U rfl h1 (gf := 57) (lb := #[.pointer (some ⟨Bl, 0, none⟩)]) rfl trivial (enters_of Tryd.func57 (by kernel_rfl) rfl)
    hseq below_plain KpB.trans (kpB_b hB1) (Below.refl _ _) (fun _ => rfl)
    (fun pre W => (∃ v, Boxed W w.heap.size 23 v ∧ W.ownsRow (w.heap.size + 1) 31 2 v pre.length (pre.flatMap encSp) ∧ True) ∧ Stir T2 w1 W)
    (fun _ _ _ => False)
    (OwnFrom.and (Own.from (holdsRow_own (w.heap.size + 1) w.heap.size 23 31 2 (fun pre : List S31 => pre.length) (fun pre => pre.flatMap encSp) (fun _ _ => True)) _) (ownFrom_stir w1 (by rw [hT2]; intro k hk; omega)))
    (fun _ => ownFrom_no) ?abides (fun _ _ _ _ h _ => h) ⟨⟨_, bB, World.ownsRow_nil _ _ _ _, trivial⟩, Stir.refl _ _⟩
    (fun x a' W => ∃ b, W.cell? ⟨b, 0, none⟩ = some (.int .i64 x.f0) ∧ W.cell? ⟨b, 1, none⟩ = some (.int .i64 x.f1) ∧ a' = { tmps := #[.slice none 0 0, .func (.func 57) #[] #[.pointer (some ⟨Bl, 0, none⟩)], .pointer (some ⟨w.heap.size, 0, none⟩), undef, .slice none 0 0, .pointer (some ⟨b, 0, none⟩), .func (.func 57) #[] #[.pointer (some ⟨Bl, 0, none⟩)], .agg #[.int .i64 x.f0, .int .i64 x.f1], undef, undef, undef, undef, undef], defers := [] })
    (fun x a' _ X Y row h hg hr => by
      obtain ⟨b, c0, c1, e⟩ := h
      exact ⟨b, cell_kept c0 hg (fun r e => (hr r e).2), cell_kept c1 hg (fun r e => (hr r e).2), e⟩) ?assign ?body ?done ?stop
  case abides =>
    rintro p X Y ⟨⟨v, h1, h2, _⟩, h3⟩ hr
    have hs := Stir.of_below hr (fun _ => False)
    exact ⟨⟨v, boxed_stir h1 hs (fun e => e), hs.owns h2 (fun _ _ e => e), trivial⟩, h3.trans hs (fun _ _ e => e.elim)⟩
  case assign =>
    rintro l pre x W K ⟨⟨v, hv, hrow, _⟩, hS⟩ hK
    have hb : Below W.heap.size W (W.alloc (.cells #[.int .i64 x.f0, .int .i64 x.f1] 31)) := (Below.refl _ W).alloc (Nat.le_refl _) _
    have hs := Stir.of_below hb (fun _ => False)
    have HQ := Lib.hid (hK { tmps := #[.slice none 0 0, .func (.func 57) #[] #[.pointer (some ⟨Bl, 0, none⟩)], .pointer (some ⟨w.heap.size, 0, none⟩), undef, .slice none 0 0, .pointer (some ⟨W.heap.size, 0, none⟩), .func (.func 57) #[] #[.pointer (some ⟨Bl, 0, none⟩)], .agg #[.int .i64 x.f0, .int .i64 x.f1], undef, undef, undef, undef, undef], defers := [] }
      (W.alloc (.cells #[.int .i64 x.f0, .int .i64 x.f1] 31)) ((KeepsOthers.of_below hb).from _) (kpB_below hb (by have := hS.size; omega))
      ⟨⟨v, boxed_stir hv hs (fun e => e), hs.owns hrow (fun _ _ e => e), trivial⟩, hS.trans hs (fun _ _ e => e.elim)⟩
      ⟨W.heap.size, by unfold World.cell?; rw [heap_alloc_new]; rfl, by unfold World.cell?; rw [heap_alloc_new]; rfl, rfl⟩)
    clear hK hv hrow hS hb hs
    gi_wp2
    exact HQ.out
  case body =>
    rintro l pre x a' W ⟨⟨v, hv, hrow, _⟩, hS⟩ ⟨b5, q0, q1, rfl⟩ hlen2
    have hsz := hS.size
    have hc := hv.cell
    have hTB : T2 w.heap.size := by rw [hT2]; omega
    have hTb : ∀ i, w.heap.size + 1 ≤ i → T2 i := by rw [hT2]; intro i hi; omega
    have hba : Below W.heap.size W (W.alloc (.cells #[.int .i64 x.f0, .int .i64 x.f1] 31)) := (Below.refl _ W).alloc (Nat.le_refl _) _
    have hv0 := hv.alloc (.cells #[.int .i64 x.f0, .int .i64 x.f1] 31)
    have hf0 := hv0.frozen
    have hrow0 := hrow.kept (World.grownBy_alloc W (.cells #[.int .i64 x.f0, .int .i64 x.f1] 31) none) (by cases h : v.ownBlock with | none => exact .inl rfl | some _ => exact .inr (by simp))
    have hS0 : Stir T2 W (W.alloc (.cells #[.int .i64 x.f0, .int .i64 x.f1] 31)) := (Stir.refl T2 W).alloc _
    have hK0 : KeepsOthers W (W.alloc (.cells #[.int .i64 x.f0, .int .i64 x.f1] 31)) := KeepsOthers.alloc _ _
    have hx : ∀ j u, ([.int .i64 x.f0, .int .i64 x.f1] : List Value)[j]? = some u → (W.alloc (.cells #[.int .i64 x.f0, .int .i64 x.f1] 31)).cell? ((⟨W.heap.size, 0, none⟩ : Addr).add j) = some u := by
      intro j u hj
      match j, hj with
      | 0, hj => cases hj; show (W.alloc _).cell? ⟨W.heap.size, 0, none⟩ = _; unfold World.cell?; rw [heap_alloc_new]; rfl
      | 1, hj => cases hj; show (W.alloc _).cell? ⟨W.heap.size, 0 + 1, none⟩ = _; unfold World.cell?; rw [heap_alloc_new]; rfl
      | j + 2, hj => simp at hj
    have hpl : pre.length ≤ 2000000000 := by omega
    gi_wp2_with (gi_at_builtin; go_loud (refine wpListIn_append_at (W.alloc (.cells #[.int .i64 x.f0, .int .i64 x.f1] 31)) rfl (.tmp 8) (.tmp 10) 23 rfl (w.heap.size + 1) 31 i0 (.agg #[.int .i64 0, .int .i64 0]) 2 16 Tryd.underlying23 hi hz0 hz1 hz2 rfl (by decide) _ _ _ rfl hrow0 ⟨W.heap.size, 0, none⟩ 1 1 [.int .i64 x.f0, .int .i64 x.f1] rfl rfl hx (by intro u hu; simp at hu; rcases hu with rfl | rfl <;> rfl) (by unfold maxLen; omega) (by omega) (by simp; omega) ?_))
    intro v' w7 hown hgrow hat
    obtain ⟨b1, b2, b3, b4, b5⟩ := Cav.Boxed.app hv (by decide) hrow hK0 hS0 hv0 hrow0 hTB hTb hown hgrow
    have b6 := Boxed.kpB hv (by decide) hba hv0 hrow0 hown hgrow (by simpa using hat)
    obtain ⟨a3, c3, rfl⟩ := owns_slice hown
    have m1 := b1.cell
    have m2 := b1.frozen
    have Hq := Lib.hid (And.intro b2 (And.intro b3 (And.intro b4 (And.intro b5 b6))))
    clear hown hgrow hat hrow b1 b2 b3 b4 b5 b6 hc hv hv0 hrow0 hS0 hK0 hx hf0 hba q0 q1
    gi_wp2
    obtain ⟨b2, b3, b4, b5, b6⟩ := Hq.out
    refine ⟨b4.from _, b6, ⟨⟨_, b2, ?_, trivial⟩, hS.trans b5 (fun _ _ e => e)⟩⟩
    simpa [encSp] using b3
  case done =>
    rintro D ys W W0 hD rfl hWe ⟨⟨v, hv, hrow, _⟩, hS⟩ hK
    have hc := hv.cell
    have hD2 : w.heap.size ≤ D := by omega
    have hRk := hrow.kept (grownBy_putObj' W D (.deferred none)) (by
      cases hv' : v.ownBlock with
      | none => exact .inl rfl
      | some k =>
        refine .inr fun e' => ?_
        obtain rfl : k = D := by simpa using e'
        obtain ⟨cells, hcells⟩ := own_typed hrow k hv'
        rw [hK] at hcells; cases hcells)
    have hBl : Below w.heap.size w (W.putObj D (.deferred none)) := hb1.trans ((hS.trans (stirK_b (T := T2) (w := w1) (by rw [hT2]; intro k hk; omega) W D _ (.deferred none) hD hK rfl rfl) (fun _ _ e => e)).below (by omega) (by rw [hT2]; intro k h; omega))
    have HF := Lib.hid (And.intro (Kd.R_lower (R_cells hRk) (by omega : w.heap.size ≤ w.heap.size + 1)) hBl)
    obtain ⟨a3, c3, rfl⟩ := owns_slice hrow
    clear hv hrow hS hRk hBl hWe
    gi_wp2
    refine ⟨by simp, .inl ⟨_, _, rfl, run_takeDeferred hK, ?_⟩⟩
    exact ⟨_, results_tmp (t := 4) rfl _ _ _, _, rfl, HF.out.1, HF.out.2⟩
  case stop =>
    rintro D c' pre W W0 hD _ h
    exact h.elim
end Go.Proofs.YtnlakdpfkgjdaaaDoor.G

/- spans.Both and spans.Minus in the print's words. Conditions: bounds on the lists' lengths. -/
namespace Go.Proofs.YtnlakdpfkgjdaaaDoor.G
open Go.RowKit Go.Shelf Go.Cav Go.Proofs.YtnlakdpfkgjdaaaDoorW.PrintWords Go.Proofs.YtnlakdpfkgjdaaaDoorW.PrintLast Go.Proofs.YtnlakdpfkgjdaaaDoorW.PrintMore
attribute [local go_sem] Oper.semAt_some
theorem pairs_any (A : Option Addr) (n c : Nat) (A2 : Option Addr) (m c2 : Nat) (w : World) : Calls Tryd.prog 41 #[.slice A n c, .slice A2 m c2] w fun e w' => e = .returned (.func (.func 58) #[] #[.pointer (some ⟨w.heap.size, 0, none⟩), .pointer (some ⟨w.heap.size + 1, 0, none⟩)]) ∧ w' = (w.alloc (.cells #[.slice A n c] 23)).alloc (.cells #[.slice A2 m c2] 23) := by
  go_enter Tryd.func41, Tryd.ntmps41
  go_wp2
  go_ret
  exact ⟨by simp, rfl⟩
theorem gaps_any (A : Option Addr) (n c : Nat) (w : World) : Calls Tryd.prog 40 #[.slice A n c] w fun e w' => e = .returned (.func (.func 57) #[] #[.pointer (some ⟨w.heap.size, 0, none⟩)]) ∧ w' = w.alloc (.cells #[.slice A n c] 23) := by
  go_enter Tryd.func40, Tryd.ntmps40
  go_wp2
  go_ret
  exact ⟨by simp, rfl⟩
theorem pairs_seq (B Ba Bb n : Nat) (hn : 1 ≤ n) (A : Option Addr) (c : Nat) (xs : List S31) (A2 : Option Addr) (c2 : Nat) (ys : List S31) (hxs : xs.length ≤ 1000000000) (hys : ys.length ≤ 1000000000) (w : World)
    (hB : B < w.heap.size) (hfree : ownAt B w = none) (hba : w.cell? ⟨Ba, 0, none⟩ = some (.slice A xs.length c)) (hC : Kd.C k31 w A xs.length xs) (hcl : xs.length ≤ c)
    (hbb : w.cell? ⟨Bb, 0, none⟩ = some (.slice A2 ys.length c2)) (hC2 : Kd.C k31 w A2 ys.length ys) (hcl2 : ys.length ≤ c2) :
    SeqT Fence.wide n Tryd.prog 58 #[.pointer (some ⟨Ba, 0, none⟩), .pointer (some ⟨Bb, 0, none⟩)] encP (KpB B) (fun X Y => Below X.heap.size X Y)
      (fun zs _ => zs = pairsS ((normS xs).length + (normS ys).length) (normS xs) (normS ys)) (fun pre _ => pre <+: pairsS ((normS xs).length + (normS ys).length) (normS xs) (normS ys)) (pairsS ((normS xs).length + (normS ys).length) (normS xs) (normS ys)).length w := by
  intro l J Jx W hW hJ _ hY h0
  have hs : Stir (fun _ => False) w W := Stir.of_below hW _
  exact pairs_in B Ba Bb n hn l A c xs A2 c2 ys hxs hys J Jx W hJ hY (by have := hW.size; omega) (by rw [ownAt_below hW hB]; exact hfree) (hs.cell hba (fun e => e)) (Kd.C_below hC hW) hcl (hs.cell hbb (fun e => e)) (Kd.C_below hC2 hW) hcl2 h0
theorem pairs_len : ∀ (k : Nat) (x y : List S31), (pairsS k x y).length ≤ k
  | 0, x, y => by simp [pairsS]
  | k + 1, [], y => by rw [pairsS_nil]; simp
  | k + 1, s :: x, [] => by rw [pairsS_nil2]; simp
  | k + 1, s :: x, u :: y => by
    have a := pairs_len k x (u :: y)
    have b := pairs_len k (s :: x) y
    rw [pairsS_cons, List.length_append]
    split <;> split <;> simp <;> omega
/-- what both lists say -/
def bothS (x y : List S31) : List S31 := normS ((pairsS ((normS x).length + (normS y).length) (normS x) (normS y)).map meetS)
set_option maxRecDepth 100000 in
set_option maxHeartbeats 4000000 in
theorem both_any (A : Option Addr) (c : Nat) (xs : List S31) (A2 : Option Addr) (c2 : Nat) (ys : List S31) (hxs : xs.length ≤ 400000000) (hys : ys.length ≤ 400000000) (w : World)
    (hC : Kd.C k31 w A xs.length xs) (hcl : xs.length ≤ c) (hC2 : Kd.C k31 w A2 ys.length ys) (hcl2 : ys.length ≤ c2) :
    Calls Tryd.prog 27 #[.slice A xs.length c, .slice A2 ys.length c2] w fun e w' => ∃ v, e = .returned v ∧ Kd.R k31 31 w' w.heap.size (fun _ => True) v (bothS xs ys) ∧ Below w.heap.size w w' := by
  obtain ⟨i0, hi, hz0, hz1, hz2⟩ := info31_parts
  unfold bothS
  have hpl := pairs_len ((normS xs).length + (normS ys).length) (normS xs) (normS ys)
  have hnl := normS_len xs
  have hnl2 := normS_len ys
  obtain ⟨w0, hw0⟩ : ∃ w0, w0 = w.alloc (.cells #[.slice none 0 0] 23) := ⟨_, rfl⟩
  obtain ⟨w1, hw1⟩ : ∃ w1, w1 = (w0.alloc (.cells #[.slice A xs.length c] 23)).alloc (.cells #[.slice A2 ys.length c2] 23) := ⟨_, rfl⟩
  have hsz0 : w0.heap.size = w.heap.size + 1 := by rw [hw0]; simp
  have hsz1 : w1.heap.size = w.heap.size + 3 := by rw [hw1]; simp; omega
  have bB0 : Boxed w0 w.heap.size 23 (.slice none 0 0) := by rw [hw0]; exact Boxed.new w 23 (.slice none 0 0)
  have bB : Boxed w1 w.heap.size 23 (.slice none 0 0) := by rw [hw1]; exact (bB0.alloc _).alloc _
  have hb0 : Below w.heap.size w w0 := by rw [hw0]; exact (Below.refl _ w).alloc (Nat.le_refl _) _
  have hb1 : Below w.heap.size w w1 := by rw [hw1]; exact (hb0.alloc (by omega) _).alloc (by simp; omega) _
  have bA1 : Boxed w1 w0.heap.size 23 (.slice A xs.length c) := by rw [hw1]; exact (Boxed.new w0 23 (.slice A xs.length c)).alloc _
  have bA2 : Boxed w1 (w0.heap.size + 1) 23 (.slice A2 ys.length c2) := by
    rw [hw1]
    have := Boxed.new (w0.alloc (.cells #[.slice A xs.length c] 23)) 23 (.slice A2 ys.length c2)
    rw [World.size_alloc] at this; exact this
  have hfree : ownAt w.heap.size w1 = none := by unfold ownAt; rw [bB.cell]; rfl
  have hseq := pairs_seq w.heap.size w0.heap.size (w0.heap.size + 1) 5 (by omega) A c xs A2 c2 ys (by omega) (by omega) w1 (by omega) hfree bA1.cell (Kd.C_below hC hb1) hcl bA2.cell (Kd.C_below hC2 hb1) hcl2
  clear hfree hC hC2 bA1 bA2 bB0
  generalize pairsS ((normS xs).length + (normS ys).length) (normS xs) (normS ys) = G at *
  have hcall := pairs_any A xs.length c A2 ys.length c2 w0
  rw [← hw1] at hcall
  refine (callsIn_wide (n := 6)).1 ?_
  have h1 : 1 ≤ 6 := by omega
  refine callsIn_of_wp_marks Tryd.func27 rfl trivial ?_ rfl
  simp only [Tryd.ntmps27, List.size_toArray, List.length_cons, List.length_nil, Nat.reduceAdd, Nat.reduceSub, Array.replicate_succ, Array.replicate_zero, List.push_toArray, List.append_toArray, List.nil_append, List.cons_append]
  have HW0 := Lib.hid hw0
  have HS0 := Lib.hid hsz0
  have HS1 := Lib.hid hsz1
  clear hw0 hw1 hsz0 hsz1
  gi_wp2_with fail
  rw [← HW0.out]
  refine ⟨trivial, (callsIn_wide.2 hcall).mono ?_⟩
  rintro e w1' ⟨rfl, rfl⟩
  gi_wp2_with fail
  obtain ⟨T2, hT2⟩ : ∃ T2 : Nat → Prop, T2 = (fun k => w.heap.size ≤ k) := ⟨_, rfl⟩
  have hB1 : w.heap.size < w1'.heap.size := by rw [HS1.out]; omega
  refine wpIn_rangeFunc_U rfl h1 (gf := 58) (lb := #[.pointer (some ⟨w0.heap.size, 0, none⟩), .pointer (some ⟨w0.heap.size + 1, 0, none⟩)]) rfl trivial (enters_of Tryd.func58 (by kernel_rfl) rfl)
    hseq below_plain KpB.trans (kpB_b hB1) (Below.refl _ _) (fun _ => rfl)
    (fun pre W => (∃ v, Boxed W w.heap.size 23 v ∧ W.ownsRow (w.heap.size + 1) 31 2 v pre.length ((pre.map meetS).flatMap encSp) ∧ True) ∧ Stir T2 w1' W)
    (fun _ _ _ => False)
    (OwnFrom.and (Own.from (holdsRow_own (w.heap.size + 1) w.heap.size 23 31 2 (fun pre : List (S31 × S31) => pre.length) (fun pre => (pre.map meetS).flatMap encSp) (fun _ _ => True)) _) (ownFrom_stir w1' (by rw [hT2]; intro k hk; omega)))
    (fun _ => ownFrom_no) ?abides (fun _ _ _ _ h _ => h) ⟨⟨_, bB, World.ownsRow_nil _ _ _ _, trivial⟩, Stir.refl _ _⟩
    (fun x a' W => ∃ b b', W.cell? ⟨b, 0, none⟩ = some (.int .i64 x.1.f0) ∧ W.cell? ⟨b, 1, none⟩ = some (.int .i64 x.1.f1) ∧ W.cell? ⟨b', 0, none⟩ = some (.int .i64 x.2.f0) ∧ W.cell? ⟨b', 1, none⟩ = some (.int .i64 x.2.f1) ∧ a' = { tmps := #[.slice A xs.length c, .slice A2 ys.length c2, undef, undef, .slice none 0 0, .pointer (some ⟨w.heap.size, 0, none⟩), .pointer (some ⟨b, 0, none⟩), .pointer (some ⟨b', 0, none⟩), .slice A xs.length c, .slice A2 ys.length c2, .func (.func 58) #[] #[.pointer (some ⟨w0.heap.size, 0, none⟩), .pointer (some ⟨w0.heap.size + 1, 0, none⟩)], .agg #[.int .i64 x.1.f0, .int .i64 x.1.f1], .agg #[.int .i64 x.2.f0, .int .i64 x.2.f1], undef, undef, undef, undef, undef, undef, undef, undef, undef, undef, undef, undef, undef, undef, undef, undef], defers := [] })
    (fun x a' _ X Y row h hg hr => by
      obtain ⟨b, b', c0, c1, c3, c4, e⟩ := h
      exact ⟨b, b', cell_kept c0 hg (fun r e => (hr r e).2), cell_kept c1 hg (fun r e => (hr r e).2), cell_kept c3 hg (fun r e => (hr r e).2), cell_kept c4 hg (fun r e => (hr r e).2), e⟩) ?assign ?body ?done ?stop
  case abides =>
    rintro p X Y ⟨⟨v, h1, h2, _⟩, h3⟩ hr
    have hs := Stir.of_below hr (fun _ => False)
    exact ⟨⟨v, boxed_stir h1 hs (fun e => e), hs.owns h2 (fun _ _ e => e), trivial⟩, h3.trans hs (fun _ _ e => e.elim)⟩
  case assign =>
    rintro l pre x W K ⟨⟨v, hv, hrow, _⟩, hS⟩ hK
    have hb : Below W.heap.size W ((W.alloc (.cells #[.int .i64 x.1.f0, .int .i64 x.1.f1] 31)).alloc (.cells #[.int .i64 x.2.f0, .int .i64 x.2.f1] 31)) := ((Below.refl _ W).alloc (Nat.le_refl _) _).alloc (by simp) _
    have hs := Stir.of_below hb (fun _ => False)
    have q0 : (W.alloc (.cells #[.int .i64 x.1.f0, .int .i64 x.1.f1] 31)).cell? ⟨W.heap.size, 0, none⟩ = some (.int .i64 x.1.f0) := by unfold World.cell?; rw [heap_alloc_new]; rfl
    have q1 : (W.alloc (.cells #[.int .i64 x.1.f0, .int .i64 x.1.f1] 31)).cell? ⟨W.heap.size, 1, none⟩ = some (.int .i64 x.1.f1) := by unfold World.cell?; rw [heap_alloc_new]; rfl
    have hs2 : Stir (fun _ => False) (W.alloc (.cells #[.int .i64 x.1.f0, .int .i64 x.1.f1] 31)) ((W.alloc (.cells #[.int .i64 x.1.f0, .int .i64 x.1.f1] 31)).alloc (.cells #[.int .i64 x.2.f0, .int .i64 x.2.f1] 31)) := (Stir.refl _ _).alloc _
    have q2 : ((W.alloc (.cells #[.int .i64 x.1.f0, .int .i64 x.1.f1] 31)).alloc (.cells #[.int .i64 x.2.f0, .int .i64 x.2.f1] 31)).cell? ⟨W.heap.size + 1, 0, none⟩ = some (.int .i64 x.2.f0) := by
      have := heap_alloc_new (W.alloc (.cells #[.int .i64 x.1.f0, .int .i64 x.1.f1] 31)) (.cells #[.int .i64 x.2.f0, .int .i64 x.2.f1] 31)
      rw [World.size_alloc] at this
      unfold World.cell?; rw [this]; rfl
    have q3 : ((W.alloc (.cells #[.int .i64 x.1.f0, .int .i64 x.1.f1] 31)).alloc (.cells #[.int .i64 x.2.f0, .int .i64 x.2.f1] 31)).cell? ⟨W.heap.size + 1, 1, none⟩ = some (.int .i64 x.2.f1) := by
      have := heap_alloc_new (W.alloc (.cells #[.int .i64 x.1.f0, .int .i64 x.1.f1] 31)) (.cells #[.int .i64 x.2.f0, .int .i64 x.2.f1] 31)
      rw [World.size_alloc] at this
      unfold World.cell?; rw [this]; rfl
    have HQ := Lib.hid (hK { tmps := #[.slice A xs.length c, .slice A2 ys.length c2, undef, undef, .slice none 0 0, .pointer (some ⟨w.heap.size, 0, none⟩), .pointer (some ⟨W.heap.size, 0, none⟩), .pointer (some ⟨W.heap.size + 1, 0, none⟩), .slice A xs.length c, .slice A2 ys.length c2, .func (.func 58) #[] #[.pointer (some ⟨w0.heap.size, 0, none⟩), .pointer (some ⟨w0.heap.size + 1, 0, none⟩)], .agg #[.int .i64 x.1.f0, .int .i64 x.1.f1], .agg #[.int .i64 x.2.f0, .int .i64 x.2.f1], undef, undef, undef, undef, undef, undef, undef, undef, undef, undef, undef, undef, undef, undef, undef, undef], defers := [] }
      ((W.alloc (.cells #[.int .i64 x.1.f0, .int .i64 x.1.f1] 31)).alloc (.cells #[.int .i64 x.2.f0, .int .i64 x.2.f1] 31)) ((KeepsOthers.of_below hb).from _) (kpB_below hb (by have := hS.size; omega))
      ⟨⟨v, boxed_stir hv hs (fun e => e), hs.owns hrow (fun _ _ e => e), trivial⟩, hS.trans hs (fun _ _ e => e.elim)⟩
      ⟨W.heap.size, W.heap.size + 1, hs2.cell q0 (fun e => e), hs2.cell q1 (fun e => e), q2, q3, rfl⟩)
    clear hK hv hrow hS hb hs q0 q1 q2 q3 hs2
    gi_wp2
    exact HQ.out
  case body =>
    rintro l pre x a' W ⟨⟨v, hv, hrow, _⟩, hS⟩ ⟨b5, b6, q0, q1, q2, q3, rfl⟩ hlen2
    have hsz := hS.size
    have hc := hv.cell
    have hTB : T2 w.heap.size := by rw [hT2]; omega
    have hTb : ∀ i, w.heap.size + 1 ≤ i → T2 i := by rw [hT2]; intro i hi; omega
    have hba : Below W.heap.size W (W.alloc (.cells #[.int .i64 (max x.1.f0 x.2.f0), .int .i64 (min x.1.f1 x.2.f1)] 31)) := (Below.refl _ W).alloc (Nat.le_refl _) _
    have hv0 := hv.alloc (.cells #[.int .i64 (max x.1.f0 x.2.f0), .int .i64 (min x.1.f1 x.2.f1)] 31)
    have hf0 := hv0.frozen
    have hrow0 := hrow.kept (World.grownBy_alloc W (.cells #[.int .i64 (max x.1.f0 x.2.f0), .int .i64 (min x.1.f1 x.2.f1)] 31) none) (by cases h : v.ownBlock with | none => exact .inl rfl | some _ => exact .inr (by simp))
    have hS0 : Stir T2 W (W.alloc (.cells #[.int .i64 (max x.1.f0 x.2.f0), .int .i64 (min x.1.f1 x.2.f1)] 31)) := (Stir.refl T2 W).alloc _
    have hK0 : KeepsOthers W (W.alloc (.cells #[.int .i64 (max x.1.f0 x.2.f0), .int .i64 (min x.1.f1 x.2.f1)] 31)) := KeepsOthers.alloc _ _
    have hx : ∀ j u, ([.int .i64 (max x.1.f0 x.2.f0), .int .i64 (min x.1.f1 x.2.f1)] : List Value)[j]? = some u → (W.alloc (.cells #[.int .i64 (max x.1.f0 x.2.f0), .int .i64 (min x.1.f1 x.2.f1)] 31)).cell? ((⟨W.heap.size, 0, none⟩ : Addr).add j) = some u := by
      intro j u hj
      match j, hj with
      | 0, hj => cases hj; show (W.alloc _).cell? ⟨W.heap.size, 0, none⟩ = _; unfold World.cell?; rw [heap_alloc_new]; rfl
      | 1, hj => cases hj; show (W.alloc _).cell? ⟨W.heap.size, 0 + 1, none⟩ = _; unfold World.cell?; rw [heap_alloc_new]; rfl
      | j + 2, hj => simp at hj
    have hpl2 : pre.length ≤ 2000000000 := by omega
    have hszx : w.heap.size + 1 ≤ W.heap.size := by omega
    gi_wp2_with (gi_at_builtin; go_loud (refine wpListIn_append_at (W.alloc (.cells #[.int .i64 (max x.1.f0 x.2.f0), .int .i64 (min x.1.f1 x.2.f1)] 31)) rfl (.tmp 13) (.tmp 25) 23 rfl (w.heap.size + 1) 31 i0 (.agg #[.int .i64 0, .int .i64 0]) 2 16 Tryd.underlying23 hi hz0 hz1 hz2 rfl (by decide) _ _ _ rfl hrow0 ⟨W.heap.size, 0, none⟩ 1 1 [.int .i64 (max x.1.f0 x.2.f0), .int .i64 (min x.1.f1 x.2.f1)] rfl rfl hx (by intro u hu; simp at hu; rcases hu with rfl | rfl <;> rfl) (by unfold maxLen; omega) (by omega) (by simp; omega) ?_))
    intro v' w7 hown hgrow hat
    obtain ⟨b1, b2, b3, b4, b5'⟩ := Cav.Boxed.app hv (by decide) hrow hK0 hS0 hv0 hrow0 hTB hTb hown hgrow
    have b7 := Boxed.kpB hv (by decide) hba hv0 hrow0 hown hgrow (by simpa using hat)
    obtain ⟨a3, c3, rfl⟩ := owns_slice hown
    have m1 := b1.cell
    have m2 := b1.frozen
    have Hq := Lib.hid (And.intro b2 (And.intro b3 (And.intro b4 (And.intro b5' b7))))
    clear hown hgrow hat hrow b1 b2 b3 b4 b5' b7 hc hv hv0 hrow0 hS0 hK0 hx hf0 hba q0 q1 q2 q3
    gi_wp2
    obtain ⟨b2, b3, b4, b5', b7⟩ := Hq.out
    refine ⟨b4.from _, b7, ⟨⟨_, b2, ?_, trivial⟩, hS.trans b5' (fun _ _ e => e)⟩⟩
    simpa [encSp, meetS] using b3
  case done =>
    rintro D zs W W0 hD rfl hWe ⟨⟨v, hv, hrow, _⟩, hS⟩ hK
    have hc := hv.cell
    have hD2 : w.heap.size ≤ D := by omega
    have hrow' : W.ownsRow (w.heap.size + 1) 31 2 v (zs.map meetS).length ((zs.map meetS).flatMap encSp) := by rw [List.length_map]; exact hrow
    have hR := R_cells hrow'
    have hWb : Below w.heap.size w W := hb1.trans (hS.below (by omega) (by rw [hT2]; intro k h; exact h))
    obtain ⟨a3, c3, rfl⟩ := owns_slice hrow'
    have hrd := Kd.R_reads' hR
    have hN := norm_any a3 c3 (zs.map meetS) W hrd.2.2 hrd.2.1 (by rw [List.length_map]; omega)
    rw [List.length_map] at hN
    have hl3 : D < W.heap.size := lt_of_heap hK
    have HFIN : Hid (∀ w4, Below W.heap.size W w4 → w4.heap[D]? = some (.deferred (some [])) ∧ Below w.heap.size w (w4.putObj D (.deferred none))) := Lib.hid fun w4 hb => by
      have hK4 : w4.heap[D]? = some (.deferred (some [])) := (hb.block D hl3).trans hK
      exact ⟨hK4, hb1.trans (((hS.trans (Stir.of_below hb (fun _ => False)) (fun _ _ e => e.elim)).trans (stirK_b (T := T2) (w := w1') (by rw [hT2]; intro k hk; omega) w4 D _ (.deferred none) hD hK4 rfl rfl) (fun _ _ e => e)).below (by omega) (by rw [hT2]; intro k h; omega))⟩
    have hsW : w.heap.size ≤ W.heap.size := by omega
    clear hv hrow hrow' hS hR hrd hWe hK hWb
    gi_wp2_with fail
    refine And.intro trivial ?_
    with_reducible refine (callsIn_wide.2 hN).mono ?_
    rintro e w4 ⟨v4, rfl, hR4, hB4⟩
    obtain ⟨hK4, hB5⟩ := HFIN.out _ hB4
    have hR5 : Kd.R k31 31 (w4.putObj D (.deferred none)) w.heap.size (fun _ => True) v4 (normS (zs.map meetS)) := by
      refine Kd.R_lower (Kd.R_grown1 hR4 rfl (grownBy_putObj' w4 D (.deferred none)) fun e' => ?_) hsW
      obtain ⟨_, inner, ho, _⟩ := hR4
      have := (ho.lt D e'.symm).1
      omega
    have HF := Lib.hid (And.intro hR5 hB5)
    have HK := Lib.hid hK4
    clear hN hR4 hB4 hR5 hB5 hK4 HFIN hc
    gi_wp2
    refine ⟨by simp, .inl ⟨_, _, rfl, run_takeDeferred HK.out, ?_⟩⟩
    exact ⟨_, results_tmp (t := 4) rfl _ _ _, _, rfl, HF.out.1, HF.out.2⟩
  case stop =>
    rintro D c' pre W W0 hD _ h
    exact h.elim
/-- what the first list says, and the second does not -/
def minusS (x y : List S31) : List S31 := bothS x (gapsF 0 (normS y))
set_option maxRecDepth 100000 in
set_option maxHeartbeats 4000000 in
theorem collect_gaps (Bl : Nat) (A : Option Addr) (c : Nat) (xs : List S31) (hxs : xs.length ≤ 1000000000) (w : World)
    (hbl : w.cell? ⟨Bl, 0, none⟩ = some (.slice A xs.length c)) (hC : Kd.C k31 w A xs.length xs) (hcl : xs.length ≤ c) :
    Calls Tryd.prog 39 #[.func (.func 57) #[] #[.pointer (some ⟨Bl, 0, none⟩)]] w fun e w' => ∃ v, e = .returned v ∧ Kd.R k31 31 w' w.heap.size (fun _ => True) v (gapsF 0 (normS xs)) ∧ Below w.heap.size w w' := by
  have h := append_gaps Bl A c xs hxs w hbl hC hcl
  clear hbl hC
  go_enter Tryd.func39, Tryd.ntmps39
  go_wp2_with fail
  refine h.mono ?_
  rintro e w1 ⟨v, rfl, hR, hB⟩
  have HR := Lib.hid hR
  have HB := Lib.hid hB
  clear h hR hB
  go_wp2
  go_ret
  exact ⟨_, rfl, HR.out, HB.out⟩
set_option maxRecDepth 100000 in
set_option maxHeartbeats 4000000 in
theorem minus_any (A : Option Addr) (c : Nat) (xs : List S31) (A2 : Option Addr) (c2 : Nat) (ys : List S31) (hxs : xs.length ≤ 300000000) (hys : ys.length ≤ 300000000) (w : World)
    (hC : Kd.C k31 w A xs.length xs) (hcl : xs.length ≤ c) (hC2 : Kd.C k31 w A2 ys.length ys) (hcl2 : ys.length ≤ c2) :
    Calls Tryd.prog 26 #[.slice A xs.length c, .slice A2 ys.length c2] w fun e w' => ∃ v, e = .returned v ∧ Kd.R k31 31 w' w.heap.size (fun _ => True) v (minusS xs ys) ∧ Below w.heap.size w w' := by
  have hgl := gaps_len (normS ys) 0
  have hnl := normS_len ys
  have h1 := gaps_any A2 ys.length c2 w
  have hb1 : Below w.heap.size w (w.alloc (.cells #[.slice A2 ys.length c2] 23)) := (Below.refl _ w).alloc (Nat.le_refl _) _
  have h2 := collect_gaps w.heap.size A2 c2 ys (by omega) (w.alloc (.cells #[.slice A2 ys.length c2] 23)) (Boxed.new w 23 (.slice A2 ys.length c2)).cell (Kd.C_below hC2 hb1) hcl2
  have hCx := Kd.C_below hC hb1
  generalize hw1 : w.alloc (.cells #[.slice A2 ys.length c2] 23) = w1 at h1 h2 hb1 hCx
  clear hC hC2 hw1
  go_enter Tryd.func26, Tryd.ntmps26
  go_wp2_with fail
  refine h1.mono ?_
  rintro e w1' ⟨rfl, rfl⟩
  go_wp2_with fail
  refine h2.mono ?_
  rintro e w2 ⟨v2, rfl, hR2, hB2⟩
  obtain ⟨A3, c3, rfl⟩ := Kd.R_slice hR2
  have hrd := Kd.R_reads' hR2
  have h3 := both_any A c xs A3 c3 (gapsF 0 (normS ys)) (by omega) (by omega) w2 (Kd.C_below hCx hB2) hcl hrd.2.2 hrd.2.1
  have HB2 := Lib.hid (hb1.trans (hB2.mono hb1.size))
  clear h1 h2 hb1 hCx hR2 hB2 hrd
  go_wp2_with fail
  refine h3.mono ?_
  rintro e w3 ⟨v3, rfl, hR3, hB3⟩
  have HR := Lib.hid (Kd.R_lower hR3 HB2.out.size)
  have HB := Lib.hid (HB2.out.trans (hB3.mono HB2.out.size))
  clear h3 hR3 hB3 HB2
  go_wp2
  go_ret
  exact ⟨_, rfl, HR.out, HB.out⟩
def spans_Both.f (l0 : List S31) (l1 : List S31) : Option (List S31) := if l0.length ≤ 300000000 ∧ l1.length ≤ 300000000 then some (bothS l0 l1) else none
def spans_Minus.f (l0 : List S31) (l1 : List S31) : Option (List S31) := if l0.length ≤ 300000000 ∧ l1.length ≤ 300000000 then some (minusS l0 l1) else none
theorem spans_Both.calls (A0 : Option Addr) (c0 : Nat) (l0 : List S31) (A1 : Option Addr) (c1 : Nat) (l1 : List S31) (r : List S31) (w : World) (hr0 : Kd.C k31 w A0 l0.length l0) (hc0 : l0.length ≤ c0) (hr1 : Kd.C k31 w A1 l1.length l1) (hc1 : l1.length ≤ c1) (h : spans_Both.f l0 l1 = some r) :
    Calls Tryd.prog 27 #[.slice A0 l0.length c0, .slice A1 l1.length c1] w fun e w' => ∃ v0_ : Value, e = .returned (v0_) ∧ Kd.R k31 31 w' w.heap.size (fun _ => True) v0_ r ∧ Below w.heap.size w w' := by
  unfold spans_Both.f at h
  split at h
  · cases h; exact both_any A0 c0 l0 A1 c1 l1 (by omega) (by omega) w hr0 hc0 hr1 hc1
  · cases h
theorem spans_Minus.calls (A0 : Option Addr) (c0 : Nat) (l0 : List S31) (A1 : Option Addr) (c1 : Nat) (l1 : List S31) (r : List S31) (w : World) (hr0 : Kd.C k31 w A0 l0.length l0) (hc0 : l0.length ≤ c0) (hr1 : Kd.C k31 w A1 l1.length l1) (hc1 : l1.length ≤ c1) (h : spans_Minus.f l0 l1 = some r) :
    Calls Tryd.prog 26 #[.slice A0 l0.length c0, .slice A1 l1.length c1] w fun e w' => ∃ v0_ : Value, e = .returned (v0_) ∧ Kd.R k31 31 w' w.heap.size (fun _ => True) v0_ r ∧ Below w.heap.size w w' := by
  unfold spans_Minus.f at h
  split at h
  · rename_i hb; cases h; exact minus_any A0 c0 l0 A1 c1 l1 hb.1 hb.2 w hr0 hc0 hr1 hc1
  · cases h
end Go.Proofs.YtnlakdpfkgjdaaaDoor.G

/- Lists of marks, and what is told between them: the plain law of the reference's Mix. No conditions. -/
namespace Go.Proofs.YtnlakdpfkgjdaaaDoor.G
open Go.RowKit Go.Proofs.YtnlakdpfkgjdaaaDoorW.PrintWords Go.Proofs.YtnlakdpfkgjdaaaDoorW.PrintLast Go.Proofs.YtnlakdpfkgjdaaaDoorW.PrintMore
/-- one stretch more, from m to before m' -/
def addM (out : List S31) (m m' : Int) : List S31 :=
  match out.getLast? with
  | none => [⟨m, m' - 1⟩]
  | some t => if t.f1 = m - 1 then out.dropLast ++ [⟨t.f0, m' - 1⟩] else out ++ [⟨m, m' - 1⟩]
def mixL (p : Int → Bool) : List Int → List S31 → List S31
  | m :: m' :: r, out => mixL p (m' :: r) (if p m = true then addM out m m' else out)
  | _, out => out
/-- rising, to the last of all -/
def riseM : Int → List Int → Prop
  | m, [] => m = 16384
  | m, m' :: r => m < m' ∧ m' ≤ 16384 ∧ riseM m' r
/-- between two marks nothing changes -/
def flatM (p : Int → Bool) : Int → List Int → Prop
  | _, [] => True
  | m, m' :: r => (∀ n, m ≤ n → n < m' → p n = p m) ∧ flatM p m' r
theorem addM_spec {out : List S31} {m m' : Int} (hm : mayS out) (hl : ∀ n, hasS out n = true → n < m) (h0 : 0 ≤ m) (h1 : m < m') (h2 : m' ≤ 16384) :
    mayS (addM out m m') ∧ ∀ n, hasS (addM out m m') n = (hasS out n || (decide (m ≤ n) && decide (n < m'))) := by
  have hd : ∀ n, (decide (m ≤ n) && decide (n ≤ m' - 1)) = (decide (m ≤ n) && decide (n < m')) := fun n => by
    congr 1; exact decide_eq_decide.2 (by omega)
  unfold addM
  rcases List.eq_nil_or_concat out with rfl | ⟨q, t, rfl⟩
  · refine ⟨⟨by show -1 < m; omega, by show m ≤ m' - 1; omega, by show m' - 1 ≤ 16383; omega, trivial⟩, fun n => ?_⟩
    show ((decide (m ≤ n) && decide (n ≤ m' - 1)) || false) = _
    rw [hd, Bool.or_false]; rfl
  · rw [List.concat_eq_append] at hm hl ⊢
    obtain ⟨m1, m2, m3, m4⟩ := mayF_app.1 hm
    have ht : t.f1 < m := hl t.f1 ((hasS_iff _ _).2 ⟨t, by simp, m3, Int.le_refl _⟩)
    rw [show (q ++ [t]).getLast? = some t by simp]
    dsimp only
    by_cases c : t.f1 = m - 1
    · rw [if_pos c, List.dropLast_concat]
      refine ⟨mayF_app.2 ⟨m1, m2, by show t.f0 ≤ m' - 1; omega, by show m' - 1 ≤ 16383; omega⟩, fun n => ?_⟩
      rw [hasS_app, hasS_app]
      show (hasS q n || ((decide (t.f0 ≤ n) && decide (n ≤ m' - 1)) || false)) = ((hasS q n || ((decide (t.f0 ≤ n) && decide (n ≤ t.f1)) || false)) || _)
      rw [Bool.or_false, Bool.or_false, Bool.or_assoc]
      congr 1
      rw [Bool.eq_iff_iff]
      simp only [Bool.or_eq_true, Bool.and_eq_true, decide_eq_true_eq]
      omega
    · rw [if_neg c]
      refine ⟨mayF_app.2 ⟨hm, by rw [endS_app]; show t.f1 + 1 < m; omega, by show m ≤ m' - 1; omega, by show m' - 1 ≤ 16383; omega⟩, fun n => ?_⟩
      rw [hasS_app (q ++ [t])]
      show (_ || ((decide (m ≤ n) && decide (n ≤ m' - 1)) || false)) = _
      rw [hd, Bool.or_false]
theorem mix_spec (p : Int → Bool) : ∀ (r : List Int) (m : Int) (out : List S31), 0 ≤ m → riseM m r → flatM p m r → mayS out → (∀ n, hasS out n = (decide (0 ≤ n) && decide (n < m) && p n)) →
    mayS (mixL p (m :: r) out) ∧ ∀ n, hasS (mixL p (m :: r) out) n = (decide (0 ≤ n) && decide (n < 16384) && p n)
  | [], m, out, _, hr, _, hm, hh => by
    obtain rfl : m = 16384 := hr
    exact ⟨hm, hh⟩
  | m' :: r, m, out, h0, ⟨h1, h2, h3⟩, ⟨g1, g2⟩, hm, hh => by
    rw [mixL]
    have hl : ∀ n, hasS out n = true → n < m := fun n h => by
      rw [hh] at h
      simp only [Bool.and_eq_true, decide_eq_true_eq] at h
      exact h.1.2
    have step : ∀ n, ((decide (0 ≤ n) && decide (n < m) && p n) || (decide (m ≤ n) && decide (n < m') && p m)) = (decide (0 ≤ n) && decide (n < m') && p n) := by
      intro n
      by_cases c : m ≤ n ∧ n < m'
      · rw [g1 n c.1 c.2, decide_eq_true c.1, decide_eq_true c.2, decide_eq_true (show 0 ≤ n by omega), decide_eq_false (show ¬ n < m by omega)]
        simp
      · have e : (decide (m ≤ n) && decide (n < m')) = false := by
          rw [Bool.and_eq_false_iff, decide_eq_false_iff_not, decide_eq_false_iff_not]; omega
        rw [e, Bool.false_and, Bool.or_false]
        by_cases c2 : n < m
        · rw [decide_eq_true c2, decide_eq_true (show n < m' by omega)]
        · rw [decide_eq_false c2, decide_eq_false (show ¬ n < m' by omega)]
    by_cases hp : p m = true
    · rw [if_pos hp]
      obtain ⟨a1, a2⟩ := addM_spec hm hl h0 h1 h2
      refine mix_spec p r m' _ (by omega) h3 g2 a1 fun n => ?_
      rw [a2, hh, ← step n, hp, Bool.and_true]
    · rw [if_neg hp]
      refine mix_spec p r m' _ (by omega) h3 g2 hm fun n => ?_
      rw [hh, ← step n, show p m = false by simpa using hp, Bool.and_false, Bool.or_false]
end Go.Proofs.YtnlakdpfkgjdaaaDoor.G

/- What functions of the translation come to, and their calls' proofs; by a program of mine over the kit's print, with contracts given by hand beside. Conditions: where a plain function tells none, nothing is said. -/
namespace Go.Proofs.YtnlakdpfkgjdaaaDoor.G
open Go.RowKit Go.Proofs.YtnlakdpfkgjdaaaDoorW.PrintWords Go.Proofs.YtnlakdpfkgjdaaaDoorW.PrintLast Go.Proofs.YtnlakdpfkgjdaaaDoorW.PrintMore
attribute [local go_sem] max2_int min2_int max_two min_two max_three min_three max_four min_four   -- for this text's walks alone
set_option linter.unusedVariables false
set_option linter.unusedSimpArgs false

/-! ### caravanref1_Mark: function 55 -/
def caravanref1_Mark.l0 : Nat → List Int → Int → Int → Option (List Int)
 | 0, _, _, _ => none
 | k + 1, x0, x1, x5 => if x5 > 0 then (if 0 ≤ (wrap64 (x5 - 1)) then (if (wrap64 (x5 - 1)) < (x0.length : Int) then (if (rd x0 (wrap64 (x5 - 1))) ≥ x1 then (caravanref1_Mark.l0 k x0 x1 (wrap64 (x5 - 1))) else (if x1 < 0 then (some x0) else (if x1 > 16384 then (some x0) else (if x5 < (x0.length : Int) then (if 0 ≤ x5 then (if (rd x0 x5) = x1 then (some x0) else ((some (([] : List Int) : List Int)).bind fun y131 => (if x5 ≤ (x0.length : Int) then ((some (x0.take (x5 : Int).toNat : List Int)).bind fun y134 => (if y131.length + y134.length < 17592186044416 then ((some (y131 ++ y134 : List Int)).bind fun y138 => (if y138.length < 17592186044416 then ((some (y138 ++ [x1] : List Int)).bind fun y141 => ((some (x0.drop (x5 : Int).toNat : List Int)).bind fun y144 => (if y141.length + y144.length < 17592186044416 then (some (y141 ++ y144)) else (none)))) else (none))) else (none))) else (none)))) else (none)) else ((some (([] : List Int) : List Int)).bind fun y151 => (if 0 ≤ x5 then (if x5 ≤ (x0.length : Int) then ((some (x0.take (x5 : Int).toNat : List Int)).bind fun y154 => (if y151.length + y154.length < 17592186044416 then ((some (y151 ++ y154 : List Int)).bind fun y158 => (if y158.length < 17592186044416 then ((some (y158 ++ [x1] : List Int)).bind fun y161 => ((some (x0.drop (x5 : Int).toNat : List Int)).bind fun y164 => (if y161.length + y164.length < 17592186044416 then (some (y161 ++ y164)) else (none)))) else (none))) else (none))) else (none)) else (none))))))) else (none)) else (none)) else (if x1 < 0 then (some x0) else (if x1 > 16384 then (some x0) else (if x5 < (x0.length : Int) then (if 0 ≤ x5 then (if (rd x0 x5) = x1 then (some x0) else ((some (([] : List Int) : List Int)).bind fun y172 => (if x5 ≤ (x0.length : Int) then ((some (x0.take (x5 : Int).toNat : List Int)).bind fun y175 => (if y172.length + y175.length < 17592186044416 then ((some (y172 ++ y175 : List Int)).bind fun y179 => (if y179.length < 17592186044416 then ((some (y179 ++ [x1] : List Int)).bind fun y182 => ((some (x0.drop (x5 : Int).toNat : List Int)).bind fun y185 => (if y182.length + y185.length < 17592186044416 then (some (y182 ++ y185)) else (none)))) else (none))) else (none))) else (none)))) else (none)) else ((some (([] : List Int) : List Int)).bind fun y192 => (if 0 ≤ x5 then (if x5 ≤ (x0.length : Int) then ((some (x0.take (x5 : Int).toNat : List Int)).bind fun y195 => (if y192.length + y195.length < 17592186044416 then ((some (y192 ++ y195 : List Int)).bind fun y199 => (if y199.length < 17592186044416 then ((some (y199 ++ [x1] : List Int)).bind fun y202 => ((some (x0.drop (x5 : Int).toNat : List Int)).bind fun y205 => (if y202.length + y205.length < 17592186044416 then (some (y202 ++ y205)) else (none)))) else (none))) else (none))) else (none)) else (none))))))
def caravanref1_Mark.f (k : Nat) (l0 : List Int) (a1 : Int) : Option (List Int) := caravanref1_Mark.l0 k l0 a1 (l0.length : Int)
theorem caravanref1_Mark.mono_l : ∀ k, (∀ y0 y1 y2, LeO (caravanref1_Mark.l0 k y0 y1 y2) (caravanref1_Mark.l0 (k + 1) y0 y1 y2))
 | 0 => fun _ _ _ r h => by simp [caravanref1_Mark.l0] at h
 | k + 1 => by
  have ih0 := caravanref1_Mark.mono_l k
  ·intro y0 y1 y2
   unfold caravanref1_Mark.l0
   repeat' first
   | (with_reducible exact ih0 _ _ _)
   | (with_reducible exact LeO.refl _)
   | (with_reducible exact LeO.none _)
   | (with_reducible refine LeO.ite ?_ ?_)
   | (with_reducible refine LeO.bind ?_ (fun _ => ?_))
   | exact ih0 _ _ _
   | exact LeO.none _
   | refine LeO.ite ?_ ?_
   | refine LeO.bind ?_ (fun _ => ?_)
theorem caravanref1_Mark.mono : ∀ a0 a1 k, LeO (caravanref1_Mark.f k a0 a1) (caravanref1_Mark.f (k + 1) a0 a1) := by
 intro a0 a1 k
 have ih0 := caravanref1_Mark.mono_l k
 unfold caravanref1_Mark.f
 repeat' first
  | (with_reducible exact ih0 _ _ _)
  | (with_reducible exact LeO.refl _)
  | (with_reducible exact LeO.none _)
  | (with_reducible refine LeO.ite ?_ ?_)
  | (with_reducible refine LeO.bind ?_ (fun _ => ?_))
  | exact ih0 _ _ _
  | exact LeO.none _
  | refine LeO.ite ?_ ?_
  | refine LeO.bind ?_ (fun _ => ?_)
set_option maxHeartbeats 8000000 in
set_option maxRecDepth 100000 in
theorem caravanref1_Mark.calls (k : Nat) (P0_ : Nat → Prop) (u9000_ : Value) (l0 : List Int) (a1 : Int) (r : List Int) (w0 w : World) (hB : Below w0.heap.size w0 w) (ho0 : Kd.R (Kd.int .i64) 3 w w0.heap.size P0_ u9000_ l0) (h : caravanref1_Mark.f k l0 a1 = some r) :
 Calls Tryd.prog 55 #[u9000_, .int .i64 a1] w fun e w' => ∃ v0_ : Value, e = .returned (v0_) ∧ Kd.R (Kd.int .i64) 3 w' w0.heap.size (fun k_ => (P0_ k_ ∨ w.heap.size ≤ k_)) v0_ r ∧ Below w0.heap.size w0 w' ∧ Kept w w' (fun k_ => P0_ k_) := by
 have HO0 := Aside0.mk (show Kd.R (Kd.int .i64) 3 w w0.heap.size (fun k_ => (P0_ k_ ∨ w.heap.size ≤ k_)) u9000_ l0 from Kd.R_mono ho0 (fun k_ hk => (.inl hk)))
 have HK := Aside0.mk (Kept.refl w (fun k_ => P0_ k_))
 have HW0 := Aside0.mk hB.size
 have HB := Aside0.mk hB
 clear hB
 have H : (caravanref1_Mark.l0 k l0 a1 (l0.length : Int)) = some r := h
 clear h
 have H' := Aside0.mk H
 clear H
 obtain ⟨Ao3, co3, eo3⟩ := Kd.R_slice HO0.out
 subst eo3
 go_enter Tryd.func55, Tryd.ntmps55
 go_wp2
 go_loopg [5] k (fun kq v5 w' => ∃ (x5_1 : Int), v5 = .int .i64 x5_1 ∧ Aside0 (caravanref1_Mark.l0 kq l0 a1 x5_1 = some r) ∧ Aside0 (kq ≤ k) ∧ Aside0 (Kd.R (Kd.int .i64) 3 w' w0.heap.size (fun k_ => (P0_ k_ ∨ w.heap.size ≤ k_)) (.slice Ao3 l0.length co3) l0) ∧ Aside0 (Kept w w' (fun k_ => P0_ k_)) ∧ Aside0 (Below w0.heap.size w0 w'))
 case atStart => exact ⟨((l0.length : Int)), (by first | rfl | (simp; done) | (simp [*]; done)), H', ⟨Nat.le_refl _⟩, ⟨by (with_reducible repeat (first | apply Kd.R_alloc | apply Kd.R_drewN | apply Kd.R_drew)); exact HO0.out⟩, ⟨(q8d66_ HK.out)⟩, ⟨(qdb35_ HB.out)⟩⟩
 case round =>
  clear H'
  try clear p2
  obtain ⟨x5_1, rfl, HA, HK1, HO_0, HK, HB⟩ := hrel
  cases gk with
  | zero => exact absurd HA.out (by simp [caravanref1_Mark.l0])
  | succ k1 =>
   have H := HA.out
   clear HA
   simp only [caravanref1_Mark.l0] at H
   by_cases c4 : x5_1 > 0
   ·rw [if_pos c4] at H
    have c4b0 : decide (0 < x5_1) = true := decide_eq_true c4
    clear c4
    obtain ⟨ji5, hji5⟩ : ∃ j_ : Int, (wrap64 (x5_1 - 1)) = j_ := ⟨_, rfl⟩
    replace H : (if 0 ≤ (ji5) then (if (ji5) < (l0.length : Int) then (if (rd l0 (ji5)) ≥ a1 then (caravanref1_Mark.l0 k1 l0 a1 ji5) else (if a1 < 0 then (some l0) else (if a1 > 16384 then (some l0) else (if x5_1 < (l0.length : Int) then (if 0 ≤ x5_1 then (if (rd l0 x5_1) = a1 then (some l0) else ((some (([] : List Int) : List Int)).bind fun y131 => (if x5_1 ≤ (l0.length : Int) then ((some (l0.take (x5_1 : Int).toNat : List Int)).bind fun y134 => (if y131.length + y134.length < 17592186044416 then ((some (y131 ++ y134 : List Int)).bind fun y138 => (if y138.length < 17592186044416 then ((some (y138 ++ [a1] : List Int)).bind fun y141 => ((some (l0.drop (x5_1 : Int).toNat : List Int)).bind fun y144 => (if y141.length + y144.length < 17592186044416 then (some (y141 ++ y144)) else (none)))) else (none))) else (none))) else (none)))) else (none)) else ((some (([] : List Int) : List Int)).bind fun y151 => (if 0 ≤ x5_1 then (if x5_1 ≤ (l0.length : Int) then ((some (l0.take (x5_1 : Int).toNat : List Int)).bind fun y154 => (if y151.length + y154.length < 17592186044416 then ((some (y151 ++ y154 : List Int)).bind fun y158 => (if y158.length < 17592186044416 then ((some (y158 ++ [a1] : List Int)).bind fun y161 => ((some (l0.drop (x5_1 : Int).toNat : List Int)).bind fun y164 => (if y161.length + y164.length < 17592186044416 then (some (y161 ++ y164)) else (none)))) else (none))) else (none))) else (none)) else (none))))))) else (none)) else (none)) = some r := by first | (rw [hji5] at H; exact H) | (simp only [hji5] at H ⊢; exact H)
    have hji5w : (IntKind.i64.wrap (x5_1 - 1)) = ji5 := (i64_w _).trans hji5
    by_cases c6 : 0 ≤ (ji5)
    ·rw [if_pos c6] at H
     have c6b0 : decide (0 ≤ (ji5)) = true := decide_eq_true c6
     clear c6
     by_cases c7 : (ji5) < (l0.length : Int)
     ·rw [if_pos c7] at H
      have c7b0 : decide ((ji5) < (l0.length : Int)) = true := decide_eq_true c7
      clear c7
      by_cases c8 : (rd l0 (ji5)) ≥ a1
      ·rw [if_pos c8] at H
       have c8b0 : decide (a1 ≤ (rd l0 (ji5))) = true := decide_eq_true c8
       clear c8
       have H' := Aside0.mk H
       clear H
       have p129 : 0 ≤ ((ji5) : Int) := of_decide_eq_true (by first | (with_reducible assumption) | assumption)
       have q129 : (ji5) < (l0.length : Int) := of_decide_eq_true (by first | (with_reducible assumption) | assumption)
       obtain ⟨ad129, e129, hx129_0⟩ := Kd.at_int (Kd.R_reads' HO_0.out).2.2 (ji5) p129 q129
       cases e129
       replace p129 := eq_true p129
       replace q129 := eq_true q129
       go_wp2
       go_roundg k1
       case measure => have := HK1.out; omega
       case rel => exact ⟨(ji5), (by first | rfl | (simp; done) | (simp only [← hji5] <;> (first | rfl | simp)) | (simp [*]; done)), H', ⟨by have := HK1.out; omega⟩, ⟨by (with_reducible repeat (first | apply Kd.R_alloc | apply Kd.R_drewN | apply Kd.R_drew)); exact HO_0.out⟩, ⟨(q8d66_ HK.out)⟩, ⟨(qdb35_ HB.out)⟩⟩
      ·rw [if_neg c8] at H
       have c8b0 : decide (a1 ≤ (rd l0 (ji5))) = false := decide_eq_false c8
       clear c8
       by_cases c9 : a1 < 0
       ·rw [if_pos c9] at H
        have c9b0 : decide (a1 < 0) = true := decide_eq_true c9
        clear c9
        obtain rfl := Option.some.inj H
        have p129 : 0 ≤ ((ji5) : Int) := of_decide_eq_true (by first | (with_reducible assumption) | assumption)
        have q129 : (ji5) < (l0.length : Int) := of_decide_eq_true (by first | (with_reducible assumption) | assumption)
        obtain ⟨ad129, e129, hx129_0⟩ := Kd.at_int (Kd.R_reads' HO_0.out).2.2 (ji5) p129 q129
        cases e129
        replace p129 := eq_true p129
        replace q129 := eq_true q129
        go_wp2
        go_ret
        exact ⟨_, by first | rfl | (simp [errW_none, errW_some] <;> rfl) | (simp only [← hji5]; first | rfl | (simp [errW_none, errW_some] <;> rfl)) | (simp [*, errW_none, errW_some] <;> rfl), by (with_reducible repeat (first | apply Kd.R_alloc | apply Kd.R_drewN | apply Kd.R_drew)); exact HO_0.out, (qdb35_ HB.out), (q8d66_ HK.out)⟩
       ·rw [if_neg c9] at H
        have c9b0 : decide (a1 < 0) = false := decide_eq_false c9
        clear c9
        by_cases c10 : a1 > 16384
        ·rw [if_pos c10] at H
         have c10b0 : decide (16384 < a1) = true := decide_eq_true c10
         clear c10
         obtain rfl := Option.some.inj H
         have p129 : 0 ≤ ((ji5) : Int) := of_decide_eq_true (by first | (with_reducible assumption) | assumption)
         have q129 : (ji5) < (l0.length : Int) := of_decide_eq_true (by first | (with_reducible assumption) | assumption)
         obtain ⟨ad129, e129, hx129_0⟩ := Kd.at_int (Kd.R_reads' HO_0.out).2.2 (ji5) p129 q129
         cases e129
         replace p129 := eq_true p129
         replace q129 := eq_true q129
         go_wp2
         go_ret
         exact ⟨_, by first | rfl | (simp [errW_none, errW_some] <;> rfl) | (simp only [← hji5]; first | rfl | (simp [errW_none, errW_some] <;> rfl)) | (simp [*, errW_none, errW_some] <;> rfl), by (with_reducible repeat (first | apply Kd.R_alloc | apply Kd.R_drewN | apply Kd.R_drew)); exact HO_0.out, (qdb35_ HB.out), (q8d66_ HK.out)⟩
        ·rw [if_neg c10] at H
         have c10b0 : decide (16384 < a1) = false := decide_eq_false c10
         clear c10
         by_cases c11 : x5_1 < (l0.length : Int)
         ·rw [if_pos c11] at H
          have c11b0 : decide (x5_1 < (l0.length : Int)) = true := decide_eq_true c11
          clear c11
          by_cases c12 : 0 ≤ x5_1
          ·rw [if_pos c12] at H
           have c12b0 : decide (0 ≤ x5_1) = true := decide_eq_true c12
           clear c12
           by_cases c13 : (rd l0 x5_1) = a1
           ·rw [if_pos c13] at H
            have c13b0 : ((rd l0 x5_1) == a1) = true := beq_iff_eq.mpr c13
            have c13b1 : ((rd l0 x5_1) != a1) = false := bne_eq_false_iff_eq.mpr c13
            clear c13
            obtain rfl := Option.some.inj H
            have p129 : 0 ≤ ((ji5) : Int) := of_decide_eq_true (by first | (with_reducible assumption) | assumption)
            have q129 : (ji5) < (l0.length : Int) := of_decide_eq_true (by first | (with_reducible assumption) | assumption)
            obtain ⟨ad129, e129, hx129_0⟩ := Kd.at_int (Kd.R_reads' HO_0.out).2.2 (ji5) p129 q129
            cases e129
            replace p129 := eq_true p129
            replace q129 := eq_true q129
            have p130 : 0 ≤ (x5_1 : Int) := of_decide_eq_true (by first | (with_reducible assumption) | assumption)
            have q130 : x5_1 < (l0.length : Int) := of_decide_eq_true (by first | (with_reducible assumption) | assumption)
            obtain ⟨ad130, e130, hx130_0⟩ := Kd.at_int (Kd.R_reads' HO_0.out).2.2 x5_1 p130 q130
            obtain rfl : ad129 = ad130 := (by injection e130)
            replace p130 := eq_true p130
            replace q130 := eq_true q130
            go_wp2
            go_ret
            exact ⟨_, by first | rfl | (simp [errW_none, errW_some] <;> rfl) | (simp only [← hji5]; first | rfl | (simp [errW_none, errW_some] <;> rfl)) | (simp [*, errW_none, errW_some] <;> rfl), by (with_reducible repeat (first | apply Kd.R_alloc | apply Kd.R_drewN | apply Kd.R_drew)); exact HO_0.out, (qdb35_ HB.out), (q8d66_ HK.out)⟩
           ·rw [if_neg c13] at H
            have c13b0 : ((rd l0 x5_1) == a1) = false := beq_eq_false_iff_ne.mpr c13
            have c13b1 : ((rd l0 x5_1) != a1) = true := bne_iff_ne.mpr c13
            obtain ⟨y131, hy131⟩ : ∃ y_ : List Int, y_ = (([] : List Int)) := ⟨_, rfl⟩
            replace H : (if x5_1 ≤ (l0.length : Int) then ((some (l0.take (x5_1 : Int).toNat : List Int)).bind fun y134 => (if y131.length + y134.length < 17592186044416 then ((some (y131 ++ y134 : List Int)).bind fun y138 => (if y138.length < 17592186044416 then ((some (y138 ++ [a1] : List Int)).bind fun y141 => ((some (l0.drop (x5_1 : Int).toNat : List Int)).bind fun y144 => (if y141.length + y144.length < 17592186044416 then (some (y141 ++ y144)) else (none)))) else (none))) else (none))) else (none)) = some r := by first | (rw [hy131]; with_reducible exact H) | (have H2_ := (Option.bind_some _ _).symm.trans H; rw [hy131]; with_reducible exact H2_) | (have H2_ := (Option.bind_some _ _).symm.trans H; with_reducible exact H2_) | with_reducible exact H | (rw [hy131]; exact H) | exact H
            have Ny131 := Aside0.mk hy131
            clear hy131
            have c14b0 := eq_true (of_decide_eq_true (by first | (with_reducible assumption) | assumption) : 0 ≤ x5_1)
            by_cases c15 : x5_1 ≤ (l0.length : Int)
            ·rw [if_pos c15] at H
             have c15b0 := eq_true c15
             have c15b1 : decide (x5_1 ≤ (l0.length : Int)) = true := decide_eq_true c15
             clear c15
             obtain ⟨y134, hy134⟩ : ∃ y_ : List Int, y_ = (l0.take (x5_1 : Int).toNat) := ⟨_, rfl⟩
             replace H : (if y131.length + y134.length < 17592186044416 then ((some (y131 ++ y134 : List Int)).bind fun y138 => (if y138.length < 17592186044416 then ((some (y138 ++ [a1] : List Int)).bind fun y141 => ((some (l0.drop (x5_1 : Int).toNat : List Int)).bind fun y144 => (if y141.length + y144.length < 17592186044416 then (some (y141 ++ y144)) else (none)))) else (none))) else (none)) = some r := by first | (rw [hy134]; with_reducible exact H) | (have H2_ := (Option.bind_some _ _).symm.trans H; rw [hy134]; with_reducible exact H2_) | (have H2_ := (Option.bind_some _ _).symm.trans H; with_reducible exact H2_) | with_reducible exact H | (rw [hy134]; exact H) | exact H
             have Ny134 := Aside0.mk hy134
             clear hy134
             by_cases c16 : y131.length + y134.length < 17592186044416
             ·rw [if_pos c16] at H
              have LMc16 := Aside0.mk c16
              clear c16
              obtain ⟨y138, hy138⟩ : ∃ y_ : List Int, y_ = (y131 ++ y134) := ⟨_, rfl⟩
              replace H : (if y138.length < 17592186044416 then ((some (y138 ++ [a1] : List Int)).bind fun y141 => ((some (l0.drop (x5_1 : Int).toNat : List Int)).bind fun y144 => (if y141.length + y144.length < 17592186044416 then (some (y141 ++ y144)) else (none)))) else (none)) = some r := by first | (rw [hy138]; with_reducible exact H) | (have H2_ := (Option.bind_some _ _).symm.trans H; rw [hy138]; with_reducible exact H2_) | (have H2_ := (Option.bind_some _ _).symm.trans H; with_reducible exact H2_) | with_reducible exact H | (rw [hy138]; exact H) | exact H
              have Ny138 := Aside0.mk hy138
              clear hy138
              by_cases c17 : y138.length < 17592186044416
              ·rw [if_pos c17] at H
               have LMc17 := Aside0.mk c17
               clear c17
               obtain ⟨y141, hy141⟩ : ∃ y_ : List Int, y_ = (y138 ++ [a1]) := ⟨_, rfl⟩
               replace H : ((some (l0.drop (x5_1 : Int).toNat : List Int)).bind fun y144 => (if y141.length + y144.length < 17592186044416 then (some (y141 ++ y144)) else (none))) = some r := by first | (rw [hy141]; with_reducible exact H) | (have H2_ := (Option.bind_some _ _).symm.trans H; rw [hy141]; with_reducible exact H2_) | (have H2_ := (Option.bind_some _ _).symm.trans H; with_reducible exact H2_) | with_reducible exact H | (rw [hy141]; exact H) | exact H
               have Ny141 := Aside0.mk hy141
               clear hy141
               have c18b0 := eq_true (of_decide_eq_true (by first | (with_reducible assumption) | assumption) : 0 ≤ x5_1)
               have c19b0 := eq_true (of_decide_eq_true (by first | (with_reducible assumption) | assumption) : x5_1 ≤ (l0.length : Int))
               obtain ⟨y144, hy144⟩ : ∃ y_ : List Int, y_ = (l0.drop (x5_1 : Int).toNat) := ⟨_, rfl⟩
               replace H : (if y141.length + y144.length < 17592186044416 then (some (y141 ++ y144)) else (none)) = some r := by first | (rw [hy144]; with_reducible exact H) | (have H2_ := (Option.bind_some _ _).symm.trans H; rw [hy144]; with_reducible exact H2_) | (have H2_ := (Option.bind_some _ _).symm.trans H; with_reducible exact H2_) | with_reducible exact H | (rw [hy144]; exact H) | exact H
               have Ny144 := Aside0.mk hy144
               clear hy144
               by_cases c20 : y141.length + y144.length < 17592186044416
               ·rw [if_pos c20] at H
                have LMc20 := Aside0.mk c20
                clear c20
                obtain ⟨y148, hy148⟩ : ∃ y_ : List Int, y_ = (y141 ++ y144) := ⟨_, rfl⟩
                replace H : (some y148) = some r := by first | (rw [hy148]; with_reducible exact H) | (have H2_ := (Option.bind_some _ _).symm.trans H; rw [hy148]; with_reducible exact H2_) | (have H2_ := (Option.bind_some _ _).symm.trans H; with_reducible exact H2_) | with_reducible exact H | (rw [hy148]; exact H) | exact H
                have Ny148 := Aside0.mk hy148
                clear hy148
                obtain rfl := Option.some.inj H
                have p129 : 0 ≤ ((ji5) : Int) := of_decide_eq_true (by first | (with_reducible assumption) | assumption)
                have q129 : (ji5) < (l0.length : Int) := of_decide_eq_true (by first | (with_reducible assumption) | assumption)
                obtain ⟨ad129, e129, hx129_0⟩ := Kd.at_int (Kd.R_reads' HO_0.out).2.2 (ji5) p129 q129
                cases e129
                replace p129 := eq_true p129
                replace q129 := eq_true q129
                have p130 : 0 ≤ (x5_1 : Int) := of_decide_eq_true (by first | (with_reducible assumption) | assumption)
                have q130 : x5_1 < (l0.length : Int) := of_decide_eq_true (by first | (with_reducible assumption) | assumption)
                obtain ⟨ad130, e130, hx130_0⟩ := Kd.at_int (Kd.R_reads' HO_0.out).2.2 x5_1 p130 q130
                obtain rfl : ad129 = ad130 := (by injection e130)
                replace p130 := eq_true p130
                replace q130 := eq_true q130
                go_wp2_with (first | ((with_reducible refine gate_dst (N := 43) rfl ?_); (try (refine gate_guard (by rfl) ?_; dsimp only)); refine Kd.R_lit (Kd.int .i64) _ 3 ?hg (N := 43) ?hd (xs := ([] : List Int)) (inner := []) (ok := fun _ => True) (okp := fun _ => True) ?hr ?hp (fun _ hk => hk) trivial (Below.refl _ _) (Nat.le_refl _) (by simp) ?_; (case hd => rfl); (case hg => rfl); (case hr => first | (go_simp; done) | (go_simp; rfl)); (case hp => exact (Reps.none _ _)); intro v132 w21 ho22 hb hg_ hnew_; clear hg_ hnew_; (first | rw [← Ny131.out] at ho22 | (simp only [Int.reduceToNat] at ho22; rw [← Ny131.out] at ho22)); have n0_ := Aside0.mk (Kd.R_elder' (q8524_ HO_0.out) (Kd.R_base ho22) hb); have n1_ := Aside0.mk (Kd.R_lower (Kd.R_new' (Kd.R_newM (M := fun k_ => (P0_ k_ ∨ w.heap.size ≤ k_)) ho22 (by first | exact HK.out.1 | exact (show Kept w _ (fun k_ => P0_ k_) from (q8d66_ HK.out)).1) (fun k_ h_ => .inr h_)) (Kd.R_lt (q8524_ HO_0.out))) (below_size (qdb35_ HB.out))); have n2_ := Aside0.mk (Kept.below (S := (fun k_ => P0_ k_)) (q8d66_ HK.out) hb); have n3_ := Aside0.mk (below_step (qdb35_ HB.out) hb); clear HO_0; clear HK; clear HB; have HO_0 := n0_; have HO133 := n1_; have HK := n2_; have HB := n3_; clear n0_ n1_ n2_ n3_; clear hb ho22; have q23 : (x5_1 : Int) ≤ ((l0.length : Int) : Int) := of_decide_eq_true (by first | (with_reducible assumption) | assumption); obtain ⟨i023, hi023, _, hsz23, _⟩ := info_parts info3; have hroom23 : l0.length ≤ co3 := (Kd.R_reads' HO_0.out).2.1; have hC23 : Kd.C (Kd.int .i64) _ (some ad129) l0.length l0 := (Kd.R_reads' HO_0.out).2.2; have hcut23 := cut_to (P := Tryd.prog) 61 3 .i64 Tryd.underlying61 hi023 (some ad129) l0.length co3 x5_1 (of_decide_eq_true (by first | (with_reducible assumption) | assumption)) q23 hroom23; have hr23 := Kd.C_take (m := (x5_1 : Int).toNat) hC23 (by omega); have hy23 : y134.length = (x5_1 : Int).toNat := (by rw [Ny134.out, List.length_take]; omega); rw [← Ny134.out] at hr23; rw [← hy23] at hcut23; have HR137 := Aside0.mk hr23; have HC137 := Aside0.mk (show y134.length ≤ co3 from by omega); clear hr23 hC23 hroom23 hi023 hsz23; have KY23 := Aside0.mk hy23; clear hy23; have KL23 := Aside0.mk (show (x5_1 : Int).toNat ≤ l0.length from by omega); replace q23 := eq_true q23) | ((with_reducible refine gate_builtin (b := .append) (xs := #[.tmp 43, .tmp 46]) rfl ?_); (try (refine gate_guard (by rfl) ?_; dsimp only)); at_builtin; refine Kd.R_append_rows (Kd.int .i64) (w0 := w0) w0.heap.size rfl (.tmp 43) (.tmp 46) 61 3 (.int .i64 0) 8 rfl Tryd.underlying61 info3 rfl (by decide) (by omega) v132 y131 y134 _ _ _ (fun k_ => (P0_ k_ ∨ w.heap.size ≤ k_) ∧ some k_ ≠ (.slice (some ad129) l0.length co3 : Value).ownBlock) (fun _ => False) rfl rfl ?aO ?aR (fun _ _ h => h) (fun _ h => h.elim) ?aF ?aB ?aS ?aL ?_; (case aR => repeat (first | exact (q3f7a_ HR137.out) | (with_reducible refine Kd.C_alloc ?_ _) | (with_reducible refine Kd.C_drewN ?_ _) | (with_reducible refine Kd.C_drew ?_))); (case aB => exact (qdb35_ HB.out)); (case aF => exact (fun k_ hk => ⟨(.inr (Nat.le_trans (by first | exact HK.out.1 | exact (show Kept w _ (fun k_ => P0_ k_) from (q8d66_ HK.out)).1) hk)), Kd.fresh' (Kd.R_lt (q8524_ HO_0.out)) k_ hk⟩)); (case aO => exact (by (with_reducible repeat (first | apply Kd.R_alloc | apply Kd.R_drewN | apply Kd.R_drew)); exact Kd.R_mono HO133.out (fun _ hk => ⟨hk.1.1, hk.2⟩))); (case aS => exact (below_size (qdb35_ HB.out))); (case aL => have := LMc16.out; omega); intro v139 w24 ho hb hg hat; rw [← Ny138.out] at ho; have n0_ := Aside0.mk (Kd.R_after (ok := (fun k_ => (P0_ k_ ∨ w.heap.size ≤ k_))) (q8524_ HO_0.out) hg hat); have n1_ := Aside0.mk (hb); have n2_ := Aside0.mk (Kept.of_grown (S := (fun k_ => P0_ k_)) hg (q8d66_ HK.out) (fun k_ e_ => (HO133.out.1 k_ e_).1.1)); have n3_ := Aside0.mk ((show Kd.C (Kd.int .i64) w24 (some ad129) y134.length y134 from by rw [Ny134.out]; exact Kd.C_take (m := (x5_1 : Int).toNat) ((Kd.R_reads' (Kd.R_after (ok := (fun k_ => (P0_ k_ ∨ w.heap.size ≤ k_))) (q8524_ HO_0.out) hg hat)).2.2) KL23.out)); have n4_ := Aside0.mk (ho); clear HO_0; clear HB; clear HK; clear HR137; clear HO133; have HO_0 := n0_; have HB := n1_; have HK := n2_; have HR137 := n3_; have HO140 := n4_; clear n0_ n1_ n2_ n3_ n4_; clear ho hb hg hat) | ((with_reducible refine gate_builtin (b := .append) (xs := #[.tmp 48, .tmp 50]) rfl ?_); (try (refine gate_guard (by rfl) ?_; dsimp only)); at_builtin; refine Kd.R_append (Kd.int .i64) (w0 := w0) w0.heap.size rfl (.tmp 48) (.tmp 50) 61 3 (.int .i64 0) 8 rfl Tryd.underlying61 info3 rfl (by decide) (by omega) v139 y138 a1 [.int .i64 a1] (fun k_ => (P0_ k_ ∨ w.heap.size ≤ k_) ∧ some k_ ≠ (.slice (some ad129) l0.length co3 : Value).ownBlock) (fun _ => False) rfl rfl ?aP (fun _ hk => hk.elim) ?aF ?aO ?aB ?aS ?aL ?_; (case aP => exact rfl); (case aB => exact (qdb35_ HB.out)); (case aF => exact (fun k_ hk => ⟨(.inr (Nat.le_trans (by first | exact HK.out.1 | exact (show Kept w _ (fun k_ => P0_ k_) from (q8d66_ HK.out)).1) hk)), Kd.fresh' (Kd.R_lt (q8524_ HO_0.out)) k_ hk⟩)); (case aO => exact (q8524_ HO140.out)); (case aS => exact (below_size (qdb35_ HB.out))); (case aL => have := LMc17.out; omega); intro v142 w25 ho hb hg hat; rw [← Ny141.out] at ho; have n0_ := Aside0.mk (Kd.R_after (ok := (fun k_ => (P0_ k_ ∨ w.heap.size ≤ k_))) (q8524_ HO_0.out) hg hat); have n1_ := Aside0.mk (hb); have n2_ := Aside0.mk (Kept.of_grown (S := (fun k_ => P0_ k_)) hg (q8d66_ HK.out) (fun k_ e_ => (HO140.out.1 k_ e_).1)); have n3_ := Aside0.mk ((show Kd.C (Kd.int .i64) w25 (some ad129) y134.length y134 from by rw [Ny134.out]; exact Kd.C_take (m := (x5_1 : Int).toNat) ((Kd.R_reads' (Kd.R_after (ok := (fun k_ => (P0_ k_ ∨ w.heap.size ≤ k_))) (q8524_ HO_0.out) hg hat)).2.2) KL23.out)); have n4_ := Aside0.mk (ho); clear HO_0; clear HB; clear HK; clear HR137; clear HO140; have HO_0 := n0_; have HB := n1_; have HK := n2_; have HR137 := n3_; have HO143 := n4_; clear n0_ n1_ n2_ n3_ n4_; clear ho hb hg hat; have q26 : (x5_1 : Int) ≤ ((l0.length : Int) : Int) := of_decide_eq_true (by first | (with_reducible assumption) | assumption); obtain ⟨i026, hi026, _, hsz26, _⟩ := info_parts info3; have hroom26 : l0.length ≤ co3 := (Kd.R_reads' HO_0.out).2.1; have hC26 : Kd.C (Kd.int .i64) _ (some ad129) l0.length l0 := (Kd.R_reads' HO_0.out).2.2; have q026 : (0 : Int) ≤ (x5_1 : Int) := of_decide_eq_true (by first | (with_reducible assumption) | assumption); have hcut26 := cut_from (P := Tryd.prog) 61 3 .i64 Tryd.underlying61 hi026 1 hsz26 (some ad129) l0.length co3 x5_1 q026 q26; have hr26 := Kd.C_drop (m := (x5_1 : Int).toNat) (c := co3) hC26 (by omega) hroom26; obtain ⟨A26, hA26⟩ : ∃ A1, A1 = (if co3 = (x5_1 : Int).toNat then (some ad129) else ((some ad129) : Option Addr).map (·.add ((x5_1 : Int).toNat * 1))) := ⟨_, rfl⟩; obtain ⟨c26, hc26⟩ : ∃ c1, c1 = co3 - (x5_1 : Int).toNat := ⟨_, rfl⟩; have hy26 : y144.length = l0.length - (x5_1 : Int).toNat := (by rw [Ny144.out, List.length_drop] <;> omega); rw [show (l0).drop (x5_1 : Int).toNat = y144 from Ny144.out.symm] at hr26; replace hr26 : Kd.C (Kd.int .i64) _ A26 y144.length y144 := (by rw [hA26]; exact hr26); rw [← hy26, ← hA26, ← hc26] at hcut26; have HR147 := Aside0.mk hr26; have HC147 := Aside0.mk (show y144.length ≤ c26 from by rw [hy26, hc26]; exact Nat.sub_le_sub_right hroom26 _); clear hr26 hC26 hroom26 hi026 hsz26 hc26; have KY26 := Aside0.mk hy26; have KA26 := Aside0.mk hA26; clear hy26 hA26; have KL26 := Aside0.mk (show (x5_1 : Int).toNat ≤ l0.length from by omega); replace q26 := eq_true q26) | ((with_reducible refine gate_builtin (b := .append) (xs := #[.tmp 52, .tmp 55]) rfl ?_); (try (refine gate_guard (by rfl) ?_; dsimp only)); at_builtin; refine Kd.R_append_rows (Kd.int .i64) (w0 := w0) w0.heap.size rfl (.tmp 52) (.tmp 55) 61 3 (.int .i64 0) 8 rfl Tryd.underlying61 info3 rfl (by decide) (by omega) v142 y141 y144 _ _ _ (fun k_ => (P0_ k_ ∨ w.heap.size ≤ k_) ∧ some k_ ≠ (.slice (some ad129) l0.length co3 : Value).ownBlock) (fun _ => False) rfl rfl ?aO ?aR (fun _ _ h => h) (fun _ h => h.elim) ?aF ?aB ?aS ?aL ?_; (case aR => repeat (first | exact (q3f7a_ HR147.out) | (with_reducible refine Kd.C_alloc ?_ _) | (with_reducible refine Kd.C_drewN ?_ _) | (with_reducible refine Kd.C_drew ?_))); (case aB => exact (qdb35_ HB.out)); (case aF => exact (fun k_ hk => ⟨(.inr (Nat.le_trans (by first | exact HK.out.1 | exact (show Kept w _ (fun k_ => P0_ k_) from (q8d66_ HK.out)).1) hk)), Kd.fresh' (Kd.R_lt (q8524_ HO_0.out)) k_ hk⟩)); (case aO => exact (q8524_ HO143.out)); (case aS => exact (below_size (qdb35_ HB.out))); (case aL => have := LMc20.out; omega); intro v149 w27 ho hb hg hat; rw [← Ny148.out] at ho; have n0_ := Aside0.mk (Kd.R_after (ok := (fun k_ => (P0_ k_ ∨ w.heap.size ≤ k_))) (q8524_ HO_0.out) hg hat); have n1_ := Aside0.mk (hb); have n2_ := Aside0.mk (Kept.of_grown (S := (fun k_ => P0_ k_)) hg (q8d66_ HK.out) (fun k_ e_ => (HO143.out.1 k_ e_).1)); have n3_ := Aside0.mk ((show Kd.C (Kd.int .i64) w27 (some ad129) y134.length y134 from by rw [Ny134.out]; exact Kd.C_take (m := (x5_1 : Int).toNat) ((Kd.R_reads' (Kd.R_after (ok := (fun k_ => (P0_ k_ ∨ w.heap.size ≤ k_))) (q8524_ HO_0.out) hg hat)).2.2) KL23.out)); have n4_ := Aside0.mk ((show Kd.C (Kd.int .i64) w27 A26 y144.length y144 from by rw [Ny144.out, KA26.out]; exact Kd.C_drop (m := (x5_1 : Int).toNat) (c := co3) ((Kd.R_reads' (Kd.R_after (ok := (fun k_ => (P0_ k_ ∨ w.heap.size ≤ k_))) (q8524_ HO_0.out) hg hat)).2.2) KL26.out ((Kd.R_reads' (Kd.R_after (ok := (fun k_ => (P0_ k_ ∨ w.heap.size ≤ k_))) (q8524_ HO_0.out) hg hat)).2.1))); have n5_ := Aside0.mk (ho); clear HO_0; clear HB; clear HK; clear HR137; clear HR147; clear HO143; have HO_0 := n0_; have HB := n1_; have HK := n2_; have HR137 := n3_; have HR147 := n4_; have HO150 := n5_; clear n0_ n1_ n2_ n3_ n4_ n5_; clear ho hb hg hat))
                go_ret
                exact ⟨_, by first | rfl | (simp [errW_none, errW_some] <;> rfl) | (simp only [← hji5]; first | rfl | (simp [errW_none, errW_some] <;> rfl)) | (simp [*, errW_none, errW_some] <;> rfl), by (with_reducible repeat (first | apply Kd.R_alloc | apply Kd.R_drewN | apply Kd.R_drew)); exact Kd.R_mono HO150.out (fun _ hk => hk.1), (qdb35_ HB.out), (q8d66_ HK.out)⟩
               ·rw [if_neg c20] at H
                exact absurd H (by simp)
              ·rw [if_neg c17] at H
               exact absurd H (by simp)
             ·rw [if_neg c16] at H
              exact absurd H (by simp)
            ·rw [if_neg c15] at H
             exact absurd H (by simp)
          ·rw [if_neg c12] at H
           exact absurd H (by simp)
         ·rw [if_neg c11] at H
          have c11b0 : decide (x5_1 < (l0.length : Int)) = false := decide_eq_false c11
          clear c11
          obtain ⟨y151, hy151⟩ : ∃ y_ : List Int, y_ = (([] : List Int)) := ⟨_, rfl⟩
          replace H : (if 0 ≤ x5_1 then (if x5_1 ≤ (l0.length : Int) then ((some (l0.take (x5_1 : Int).toNat : List Int)).bind fun y154 => (if y151.length + y154.length < 17592186044416 then ((some (y151 ++ y154 : List Int)).bind fun y158 => (if y158.length < 17592186044416 then ((some (y158 ++ [a1] : List Int)).bind fun y161 => ((some (l0.drop (x5_1 : Int).toNat : List Int)).bind fun y164 => (if y161.length + y164.length < 17592186044416 then (some (y161 ++ y164)) else (none)))) else (none))) else (none))) else (none)) else (none)) = some r := by first | (rw [hy151]; with_reducible exact H) | (have H2_ := (Option.bind_some _ _).symm.trans H; rw [hy151]; with_reducible exact H2_) | (have H2_ := (Option.bind_some _ _).symm.trans H; with_reducible exact H2_) | with_reducible exact H | (rw [hy151]; exact H) | exact H
          have Ny151 := Aside0.mk hy151
          clear hy151
          by_cases c28 : 0 ≤ x5_1
          ·rw [if_pos c28] at H
           have c28b0 := eq_true c28
           have c28b1 : decide (0 ≤ x5_1) = true := decide_eq_true c28
           clear c28
           by_cases c29 : x5_1 ≤ (l0.length : Int)
           ·rw [if_pos c29] at H
            have c29b0 := eq_true c29
            have c29b1 : decide (x5_1 ≤ (l0.length : Int)) = true := decide_eq_true c29
            clear c29
            obtain ⟨y154, hy154⟩ : ∃ y_ : List Int, y_ = (l0.take (x5_1 : Int).toNat) := ⟨_, rfl⟩
            replace H : (if y151.length + y154.length < 17592186044416 then ((some (y151 ++ y154 : List Int)).bind fun y158 => (if y158.length < 17592186044416 then ((some (y158 ++ [a1] : List Int)).bind fun y161 => ((some (l0.drop (x5_1 : Int).toNat : List Int)).bind fun y164 => (if y161.length + y164.length < 17592186044416 then (some (y161 ++ y164)) else (none)))) else (none))) else (none)) = some r := by first | (rw [hy154]; with_reducible exact H) | (have H2_ := (Option.bind_some _ _).symm.trans H; rw [hy154]; with_reducible exact H2_) | (have H2_ := (Option.bind_some _ _).symm.trans H; with_reducible exact H2_) | with_reducible exact H | (rw [hy154]; exact H) | exact H
            have Ny154 := Aside0.mk hy154
            clear hy154
            by_cases c30 : y151.length + y154.length < 17592186044416
            ·rw [if_pos c30] at H
             have LMc30 := Aside0.mk c30
             clear c30
             obtain ⟨y158, hy158⟩ : ∃ y_ : List Int, y_ = (y151 ++ y154) := ⟨_, rfl⟩
             replace H : (if y158.length < 17592186044416 then ((some (y158 ++ [a1] : List Int)).bind fun y161 => ((some (l0.drop (x5_1 : Int).toNat : List Int)).bind fun y164 => (if y161.length + y164.length < 17592186044416 then (some (y161 ++ y164)) else (none)))) else (none)) = some r := by first | (rw [hy158]; with_reducible exact H) | (have H2_ := (Option.bind_some _ _).symm.trans H; rw [hy158]; with_reducible exact H2_) | (have H2_ := (Option.bind_some _ _).symm.trans H; with_reducible exact H2_) | with_reducible exact H | (rw [hy158]; exact H) | exact H
             have Ny158 := Aside0.mk hy158
             clear hy158
             by_cases c31 : y158.length < 17592186044416
             ·rw [if_pos c31] at H
              have LMc31 := Aside0.mk c31
              clear c31
              obtain ⟨y161, hy161⟩ : ∃ y_ : List Int, y_ = (y158 ++ [a1]) := ⟨_, rfl⟩
              replace H : ((some (l0.drop (x5_1 : Int).toNat : List Int)).bind fun y164 => (if y161.length + y164.length < 17592186044416 then (some (y161 ++ y164)) else (none))) = some r := by first | (rw [hy161]; with_reducible exact H) | (have H2_ := (Option.bind_some _ _).symm.trans H; rw [hy161]; with_reducible exact H2_) | (have H2_ := (Option.bind_some _ _).symm.trans H; with_reducible exact H2_) | with_reducible exact H | (rw [hy161]; exact H) | exact H
              have Ny161 := Aside0.mk hy161
              clear hy161
              have c32b0 := eq_true (of_decide_eq_true (by first | (with_reducible assumption) | assumption) : 0 ≤ x5_1)
              have c33b0 := eq_true (of_decide_eq_true (by first | (with_reducible assumption) | assumption) : x5_1 ≤ (l0.length : Int))
              obtain ⟨y164, hy164⟩ : ∃ y_ : List Int, y_ = (l0.drop (x5_1 : Int).toNat) := ⟨_, rfl⟩
              replace H : (if y161.length + y164.length < 17592186044416 then (some (y161 ++ y164)) else (none)) = some r := by first | (rw [hy164]; with_reducible exact H) | (have H2_ := (Option.bind_some _ _).symm.trans H; rw [hy164]; with_reducible exact H2_) | (have H2_ := (Option.bind_some _ _).symm.trans H; with_reducible exact H2_) | with_reducible exact H | (rw [hy164]; exact H) | exact H
              have Ny164 := Aside0.mk hy164
              clear hy164
              by_cases c34 : y161.length + y164.length < 17592186044416
              ·rw [if_pos c34] at H
               have LMc34 := Aside0.mk c34
               clear c34
               obtain ⟨y168, hy168⟩ : ∃ y_ : List Int, y_ = (y161 ++ y164) := ⟨_, rfl⟩
               replace H : (some y168) = some r := by first | (rw [hy168]; with_reducible exact H) | (have H2_ := (Option.bind_some _ _).symm.trans H; rw [hy168]; with_reducible exact H2_) | (have H2_ := (Option.bind_some _ _).symm.trans H; with_reducible exact H2_) | with_reducible exact H | (rw [hy168]; exact H) | exact H
               have Ny168 := Aside0.mk hy168
               clear hy168
               obtain rfl := Option.some.inj H
               have p129 : 0 ≤ ((ji5) : Int) := of_decide_eq_true (by first | (with_reducible assumption) | assumption)
               have q129 : (ji5) < (l0.length : Int) := of_decide_eq_true (by first | (with_reducible assumption) | assumption)
               obtain ⟨ad129, e129, hx129_0⟩ := Kd.at_int (Kd.R_reads' HO_0.out).2.2 (ji5) p129 q129
               cases e129
               replace p129 := eq_true p129
               replace q129 := eq_true q129
               go_wp2_with (first | ((with_reducible refine gate_dst (N := 43) rfl ?_); (try (refine gate_guard (by rfl) ?_; dsimp only)); refine Kd.R_lit (Kd.int .i64) _ 3 ?hg (N := 43) ?hd (xs := ([] : List Int)) (inner := []) (ok := fun _ => True) (okp := fun _ => True) ?hr ?hp (fun _ hk => hk) trivial (Below.refl _ _) (Nat.le_refl _) (by simp) ?_; (case hd => rfl); (case hg => rfl); (case hr => first | (go_simp; done) | (go_simp; rfl)); (case hp => exact (Reps.none _ _)); intro v152 w35 ho36 hb hg_ hnew_; clear hg_ hnew_; (first | rw [← Ny151.out] at ho36 | (simp only [Int.reduceToNat] at ho36; rw [← Ny151.out] at ho36)); have n0_ := Aside0.mk (Kd.R_elder' (q8524_ HO_0.out) (Kd.R_base ho36) hb); have n1_ := Aside0.mk (Kd.R_lower (Kd.R_new' (Kd.R_newM (M := fun k_ => (P0_ k_ ∨ w.heap.size ≤ k_)) ho36 (by first | exact HK.out.1 | exact (show Kept w _ (fun k_ => P0_ k_) from (q8d66_ HK.out)).1) (fun k_ h_ => .inr h_)) (Kd.R_lt (q8524_ HO_0.out))) (below_size (qdb35_ HB.out))); have n2_ := Aside0.mk (Kept.below (S := (fun k_ => P0_ k_)) (q8d66_ HK.out) hb); have n3_ := Aside0.mk (below_step (qdb35_ HB.out) hb); clear HO_0; clear HK; clear HB; have HO_0 := n0_; have HO153 := n1_; have HK := n2_; have HB := n3_; clear n0_ n1_ n2_ n3_; clear hb ho36; have q37 : (x5_1 : Int) ≤ ((l0.length : Int) : Int) := of_decide_eq_true (by first | (with_reducible assumption) | assumption); obtain ⟨i037, hi037, _, hsz37, _⟩ := info_parts info3; have hroom37 : l0.length ≤ co3 := (Kd.R_reads' HO_0.out).2.1; have hC37 : Kd.C (Kd.int .i64) _ (some ad129) l0.length l0 := (Kd.R_reads' HO_0.out).2.2; have hcut37 := cut_to (P := Tryd.prog) 61 3 .i64 Tryd.underlying61 hi037 (some ad129) l0.length co3 x5_1 (of_decide_eq_true (by first | (with_reducible assumption) | assumption)) q37 hroom37; have hr37 := Kd.C_take (m := (x5_1 : Int).toNat) hC37 (by omega); have hy37 : y154.length = (x5_1 : Int).toNat := (by rw [Ny154.out, List.length_take]; omega); rw [← Ny154.out] at hr37; rw [← hy37] at hcut37; have HR157 := Aside0.mk hr37; have HC157 := Aside0.mk (show y154.length ≤ co3 from by omega); clear hr37 hC37 hroom37 hi037 hsz37; have KY37 := Aside0.mk hy37; clear hy37; have KL37 := Aside0.mk (show (x5_1 : Int).toNat ≤ l0.length from by omega); replace q37 := eq_true q37) | ((with_reducible refine gate_builtin (b := .append) (xs := #[.tmp 43, .tmp 46]) rfl ?_); (try (refine gate_guard (by rfl) ?_; dsimp only)); at_builtin; refine Kd.R_append_rows (Kd.int .i64) (w0 := w0) w0.heap.size rfl (.tmp 43) (.tmp 46) 61 3 (.int .i64 0) 8 rfl Tryd.underlying61 info3 rfl (by decide) (by omega) v152 y151 y154 _ _ _ (fun k_ => (P0_ k_ ∨ w.heap.size ≤ k_) ∧ some k_ ≠ (.slice (some ad129) l0.length co3 : Value).ownBlock) (fun _ => False) rfl rfl ?aO ?aR (fun _ _ h => h) (fun _ h => h.elim) ?aF ?aB ?aS ?aL ?_; (case aR => repeat (first | exact (q3f7a_ HR157.out) | (with_reducible refine Kd.C_alloc ?_ _) | (with_reducible refine Kd.C_drewN ?_ _) | (with_reducible refine Kd.C_drew ?_))); (case aB => exact (qdb35_ HB.out)); (case aF => exact (fun k_ hk => ⟨(.inr (Nat.le_trans (by first | exact HK.out.1 | exact (show Kept w _ (fun k_ => P0_ k_) from (q8d66_ HK.out)).1) hk)), Kd.fresh' (Kd.R_lt (q8524_ HO_0.out)) k_ hk⟩)); (case aO => exact (by (with_reducible repeat (first | apply Kd.R_alloc | apply Kd.R_drewN | apply Kd.R_drew)); exact Kd.R_mono HO153.out (fun _ hk => ⟨hk.1.1, hk.2⟩))); (case aS => exact (below_size (qdb35_ HB.out))); (case aL => have := LMc30.out; omega); intro v159 w38 ho hb hg hat; rw [← Ny158.out] at ho; have n0_ := Aside0.mk (Kd.R_after (ok := (fun k_ => (P0_ k_ ∨ w.heap.size ≤ k_))) (q8524_ HO_0.out) hg hat); have n1_ := Aside0.mk (hb); have n2_ := Aside0.mk (Kept.of_grown (S := (fun k_ => P0_ k_)) hg (q8d66_ HK.out) (fun k_ e_ => (HO153.out.1 k_ e_).1.1)); have n3_ := Aside0.mk ((show Kd.C (Kd.int .i64) w38 (some ad129) y154.length y154 from by rw [Ny154.out]; exact Kd.C_take (m := (x5_1 : Int).toNat) ((Kd.R_reads' (Kd.R_after (ok := (fun k_ => (P0_ k_ ∨ w.heap.size ≤ k_))) (q8524_ HO_0.out) hg hat)).2.2) KL37.out)); have n4_ := Aside0.mk (ho); clear HO_0; clear HB; clear HK; clear HR157; clear HO153; have HO_0 := n0_; have HB := n1_; have HK := n2_; have HR157 := n3_; have HO160 := n4_; clear n0_ n1_ n2_ n3_ n4_; clear ho hb hg hat) | ((with_reducible refine gate_builtin (b := .append) (xs := #[.tmp 48, .tmp 50]) rfl ?_); (try (refine gate_guard (by rfl) ?_; dsimp only)); at_builtin; refine Kd.R_append (Kd.int .i64) (w0 := w0) w0.heap.size rfl (.tmp 48) (.tmp 50) 61 3 (.int .i64 0) 8 rfl Tryd.underlying61 info3 rfl (by decide) (by omega) v159 y158 a1 [.int .i64 a1] (fun k_ => (P0_ k_ ∨ w.heap.size ≤ k_) ∧ some k_ ≠ (.slice (some ad129) l0.length co3 : Value).ownBlock) (fun _ => False) rfl rfl ?aP (fun _ hk => hk.elim) ?aF ?aO ?aB ?aS ?aL ?_; (case aP => exact rfl); (case aB => exact (qdb35_ HB.out)); (case aF => exact (fun k_ hk => ⟨(.inr (Nat.le_trans (by first | exact HK.out.1 | exact (show Kept w _ (fun k_ => P0_ k_) from (q8d66_ HK.out)).1) hk)), Kd.fresh' (Kd.R_lt (q8524_ HO_0.out)) k_ hk⟩)); (case aO => exact (q8524_ HO160.out)); (case aS => exact (below_size (qdb35_ HB.out))); (case aL => have := LMc31.out; omega); intro v162 w39 ho hb hg hat; rw [← Ny161.out] at ho; have n0_ := Aside0.mk (Kd.R_after (ok := (fun k_ => (P0_ k_ ∨ w.heap.size ≤ k_))) (q8524_ HO_0.out) hg hat); have n1_ := Aside0.mk (hb); have n2_ := Aside0.mk (Kept.of_grown (S := (fun k_ => P0_ k_)) hg (q8d66_ HK.out) (fun k_ e_ => (HO160.out.1 k_ e_).1)); have n3_ := Aside0.mk ((show Kd.C (Kd.int .i64) w39 (some ad129) y154.length y154 from by rw [Ny154.out]; exact Kd.C_take (m := (x5_1 : Int).toNat) ((Kd.R_reads' (Kd.R_after (ok := (fun k_ => (P0_ k_ ∨ w.heap.size ≤ k_))) (q8524_ HO_0.out) hg hat)).2.2) KL37.out)); have n4_ := Aside0.mk (ho); clear HO_0; clear HB; clear HK; clear HR157; clear HO160; have HO_0 := n0_; have HB := n1_; have HK := n2_; have HR157 := n3_; have HO163 := n4_; clear n0_ n1_ n2_ n3_ n4_; clear ho hb hg hat; have q40 : (x5_1 : Int) ≤ ((l0.length : Int) : Int) := of_decide_eq_true (by first | (with_reducible assumption) | assumption); obtain ⟨i040, hi040, _, hsz40, _⟩ := info_parts info3; have hroom40 : l0.length ≤ co3 := (Kd.R_reads' HO_0.out).2.1; have hC40 : Kd.C (Kd.int .i64) _ (some ad129) l0.length l0 := (Kd.R_reads' HO_0.out).2.2; have q040 : (0 : Int) ≤ (x5_1 : Int) := of_decide_eq_true (by first | (with_reducible assumption) | assumption); have hcut40 := cut_from (P := Tryd.prog) 61 3 .i64 Tryd.underlying61 hi040 1 hsz40 (some ad129) l0.length co3 x5_1 q040 q40; have hr40 := Kd.C_drop (m := (x5_1 : Int).toNat) (c := co3) hC40 (by omega) hroom40; obtain ⟨A40, hA40⟩ : ∃ A1, A1 = (if co3 = (x5_1 : Int).toNat then (some ad129) else ((some ad129) : Option Addr).map (·.add ((x5_1 : Int).toNat * 1))) := ⟨_, rfl⟩; obtain ⟨c40, hc40⟩ : ∃ c1, c1 = co3 - (x5_1 : Int).toNat := ⟨_, rfl⟩; have hy40 : y164.length = l0.length - (x5_1 : Int).toNat := (by rw [Ny164.out, List.length_drop] <;> omega); rw [show (l0).drop (x5_1 : Int).toNat = y164 from Ny164.out.symm] at hr40; replace hr40 : Kd.C (Kd.int .i64) _ A40 y164.length y164 := (by rw [hA40]; exact hr40); rw [← hy40, ← hA40, ← hc40] at hcut40; have HR167 := Aside0.mk hr40; have HC167 := Aside0.mk (show y164.length ≤ c40 from by rw [hy40, hc40]; exact Nat.sub_le_sub_right hroom40 _); clear hr40 hC40 hroom40 hi040 hsz40 hc40; have KY40 := Aside0.mk hy40; have KA40 := Aside0.mk hA40; clear hy40 hA40; have KL40 := Aside0.mk (show (x5_1 : Int).toNat ≤ l0.length from by omega); replace q40 := eq_true q40) | ((with_reducible refine gate_builtin (b := .append) (xs := #[.tmp 52, .tmp 55]) rfl ?_); (try (refine gate_guard (by rfl) ?_; dsimp only)); at_builtin; refine Kd.R_append_rows (Kd.int .i64) (w0 := w0) w0.heap.size rfl (.tmp 52) (.tmp 55) 61 3 (.int .i64 0) 8 rfl Tryd.underlying61 info3 rfl (by decide) (by omega) v162 y161 y164 _ _ _ (fun k_ => (P0_ k_ ∨ w.heap.size ≤ k_) ∧ some k_ ≠ (.slice (some ad129) l0.length co3 : Value).ownBlock) (fun _ => False) rfl rfl ?aO ?aR (fun _ _ h => h) (fun _ h => h.elim) ?aF ?aB ?aS ?aL ?_; (case aR => repeat (first | exact (q3f7a_ HR167.out) | (with_reducible refine Kd.C_alloc ?_ _) | (with_reducible refine Kd.C_drewN ?_ _) | (with_reducible refine Kd.C_drew ?_))); (case aB => exact (qdb35_ HB.out)); (case aF => exact (fun k_ hk => ⟨(.inr (Nat.le_trans (by first | exact HK.out.1 | exact (show Kept w _ (fun k_ => P0_ k_) from (q8d66_ HK.out)).1) hk)), Kd.fresh' (Kd.R_lt (q8524_ HO_0.out)) k_ hk⟩)); (case aO => exact (q8524_ HO163.out)); (case aS => exact (below_size (qdb35_ HB.out))); (case aL => have := LMc34.out; omega); intro v169 w41 ho hb hg hat; rw [← Ny168.out] at ho; have n0_ := Aside0.mk (Kd.R_after (ok := (fun k_ => (P0_ k_ ∨ w.heap.size ≤ k_))) (q8524_ HO_0.out) hg hat); have n1_ := Aside0.mk (hb); have n2_ := Aside0.mk (Kept.of_grown (S := (fun k_ => P0_ k_)) hg (q8d66_ HK.out) (fun k_ e_ => (HO163.out.1 k_ e_).1)); have n3_ := Aside0.mk ((show Kd.C (Kd.int .i64) w41 (some ad129) y154.length y154 from by rw [Ny154.out]; exact Kd.C_take (m := (x5_1 : Int).toNat) ((Kd.R_reads' (Kd.R_after (ok := (fun k_ => (P0_ k_ ∨ w.heap.size ≤ k_))) (q8524_ HO_0.out) hg hat)).2.2) KL37.out)); have n4_ := Aside0.mk ((show Kd.C (Kd.int .i64) w41 A40 y164.length y164 from by rw [Ny164.out, KA40.out]; exact Kd.C_drop (m := (x5_1 : Int).toNat) (c := co3) ((Kd.R_reads' (Kd.R_after (ok := (fun k_ => (P0_ k_ ∨ w.heap.size ≤ k_))) (q8524_ HO_0.out) hg hat)).2.2) KL40.out ((Kd.R_reads' (Kd.R_after (ok := (fun k_ => (P0_ k_ ∨ w.heap.size ≤ k_))) (q8524_ HO_0.out) hg hat)).2.1))); have n5_ := Aside0.mk (ho); clear HO_0; clear HB; clear HK; clear HR157; clear HR167; clear HO163; have HO_0 := n0_; have HB := n1_; have HK := n2_; have HR157 := n3_; have HR167 := n4_; have HO170 := n5_; clear n0_ n1_ n2_ n3_ n4_ n5_; clear ho hb hg hat))
               go_ret
               exact ⟨_, by first | rfl | (simp [errW_none, errW_some] <;> rfl) | (simp only [← hji5]; first | rfl | (simp [errW_none, errW_some] <;> rfl)) | (simp [*, errW_none, errW_some] <;> rfl), by (with_reducible repeat (first | apply Kd.R_alloc | apply Kd.R_drewN | apply Kd.R_drew)); exact Kd.R_mono HO170.out (fun _ hk => hk.1), (qdb35_ HB.out), (q8d66_ HK.out)⟩
              ·rw [if_neg c34] at H
               exact absurd H (by simp)
             ·rw [if_neg c31] at H
              exact absurd H (by simp)
            ·rw [if_neg c30] at H
             exact absurd H (by simp)
           ·rw [if_neg c29] at H
            exact absurd H (by simp)
          ·rw [if_neg c28] at H
           exact absurd H (by simp)
     ·rw [if_neg c7] at H
      exact absurd H (by simp)
    ·rw [if_neg c6] at H
     exact absurd H (by simp)
   ·rw [if_neg c4] at H
    have c4b0 : decide (0 < x5_1) = false := decide_eq_false c4
    clear c4
    by_cases c42 : a1 < 0
    ·rw [if_pos c42] at H
     have c42b0 : decide (a1 < 0) = true := decide_eq_true c42
     clear c42
     obtain rfl := Option.some.inj H
     go_wp2
     go_ret
     exact ⟨_, by first | rfl | (simp [errW_none, errW_some] <;> rfl) | (simp [*, errW_none, errW_some] <;> rfl), by (with_reducible repeat (first | apply Kd.R_alloc | apply Kd.R_drewN | apply Kd.R_drew)); exact HO_0.out, (qdb35_ HB.out), (q8d66_ HK.out)⟩
    ·rw [if_neg c42] at H
     have c42b0 : decide (a1 < 0) = false := decide_eq_false c42
     clear c42
     by_cases c43 : a1 > 16384
     ·rw [if_pos c43] at H
      have c43b0 : decide (16384 < a1) = true := decide_eq_true c43
      clear c43
      obtain rfl := Option.some.inj H
      go_wp2
      go_ret
      exact ⟨_, by first | rfl | (simp [errW_none, errW_some] <;> rfl) | (simp [*, errW_none, errW_some] <;> rfl), by (with_reducible repeat (first | apply Kd.R_alloc | apply Kd.R_drewN | apply Kd.R_drew)); exact HO_0.out, (qdb35_ HB.out), (q8d66_ HK.out)⟩
     ·rw [if_neg c43] at H
      have c43b0 : decide (16384 < a1) = false := decide_eq_false c43
      clear c43
      by_cases c44 : x5_1 < (l0.length : Int)
      ·rw [if_pos c44] at H
       have c44b0 : decide (x5_1 < (l0.length : Int)) = true := decide_eq_true c44
       clear c44
       by_cases c45 : 0 ≤ x5_1
       ·rw [if_pos c45] at H
        have c45b0 : decide (0 ≤ x5_1) = true := decide_eq_true c45
        clear c45
        by_cases c46 : (rd l0 x5_1) = a1
        ·rw [if_pos c46] at H
         have c46b0 : ((rd l0 x5_1) == a1) = true := beq_iff_eq.mpr c46
         have c46b1 : ((rd l0 x5_1) != a1) = false := bne_eq_false_iff_eq.mpr c46
         clear c46
         obtain rfl := Option.some.inj H
         have p171 : 0 ≤ (x5_1 : Int) := of_decide_eq_true (by first | (with_reducible assumption) | assumption)
         have q171 : x5_1 < (l0.length : Int) := of_decide_eq_true (by first | (with_reducible assumption) | assumption)
         obtain ⟨ad171, e171, hx171_0⟩ := Kd.at_int (Kd.R_reads' HO_0.out).2.2 x5_1 p171 q171
         cases e171
         replace p171 := eq_true p171
         replace q171 := eq_true q171
         go_wp2
         go_ret
         exact ⟨_, by first | rfl | (simp [errW_none, errW_some] <;> rfl) | (simp [*, errW_none, errW_some] <;> rfl), by (with_reducible repeat (first | apply Kd.R_alloc | apply Kd.R_drewN | apply Kd.R_drew)); exact HO_0.out, (qdb35_ HB.out), (q8d66_ HK.out)⟩
        ·rw [if_neg c46] at H
         have c46b0 : ((rd l0 x5_1) == a1) = false := beq_eq_false_iff_ne.mpr c46
         have c46b1 : ((rd l0 x5_1) != a1) = true := bne_iff_ne.mpr c46
         obtain ⟨y172, hy172⟩ : ∃ y_ : List Int, y_ = (([] : List Int)) := ⟨_, rfl⟩
         replace H : (if x5_1 ≤ (l0.length : Int) then ((some (l0.take (x5_1 : Int).toNat : List Int)).bind fun y175 => (if y172.length + y175.length < 17592186044416 then ((some (y172 ++ y175 : List Int)).bind fun y179 => (if y179.length < 17592186044416 then ((some (y179 ++ [a1] : List Int)).bind fun y182 => ((some (l0.drop (x5_1 : Int).toNat : List Int)).bind fun y185 => (if y182.length + y185.length < 17592186044416 then (some (y182 ++ y185)) else (none)))) else (none))) else (none))) else (none)) = some r := by first | (rw [hy172]; with_reducible exact H) | (have H2_ := (Option.bind_some _ _).symm.trans H; rw [hy172]; with_reducible exact H2_) | (have H2_ := (Option.bind_some _ _).symm.trans H; with_reducible exact H2_) | with_reducible exact H | (rw [hy172]; exact H) | exact H
         have Ny172 := Aside0.mk hy172
         clear hy172
         have c47b0 := eq_true (of_decide_eq_true (by first | (with_reducible assumption) | assumption) : 0 ≤ x5_1)
         by_cases c48 : x5_1 ≤ (l0.length : Int)
         ·rw [if_pos c48] at H
          have c48b0 := eq_true c48
          have c48b1 : decide (x5_1 ≤ (l0.length : Int)) = true := decide_eq_true c48
          clear c48
          obtain ⟨y175, hy175⟩ : ∃ y_ : List Int, y_ = (l0.take (x5_1 : Int).toNat) := ⟨_, rfl⟩
          replace H : (if y172.length + y175.length < 17592186044416 then ((some (y172 ++ y175 : List Int)).bind fun y179 => (if y179.length < 17592186044416 then ((some (y179 ++ [a1] : List Int)).bind fun y182 => ((some (l0.drop (x5_1 : Int).toNat : List Int)).bind fun y185 => (if y182.length + y185.length < 17592186044416 then (some (y182 ++ y185)) else (none)))) else (none))) else (none)) = some r := by first | (rw [hy175]; with_reducible exact H) | (have H2_ := (Option.bind_some _ _).symm.trans H; rw [hy175]; with_reducible exact H2_) | (have H2_ := (Option.bind_some _ _).symm.trans H; with_reducible exact H2_) | with_reducible exact H | (rw [hy175]; exact H) | exact H
          have Ny175 := Aside0.mk hy175
          clear hy175
          by_cases c49 : y172.length + y175.length < 17592186044416
          ·rw [if_pos c49] at H
           have LMc49 := Aside0.mk c49
           clear c49
           obtain ⟨y179, hy179⟩ : ∃ y_ : List Int, y_ = (y172 ++ y175) := ⟨_, rfl⟩
           replace H : (if y179.length < 17592186044416 then ((some (y179 ++ [a1] : List Int)).bind fun y182 => ((some (l0.drop (x5_1 : Int).toNat : List Int)).bind fun y185 => (if y182.length + y185.length < 17592186044416 then (some (y182 ++ y185)) else (none)))) else (none)) = some r := by first | (rw [hy179]; with_reducible exact H) | (have H2_ := (Option.bind_some _ _).symm.trans H; rw [hy179]; with_reducible exact H2_) | (have H2_ := (Option.bind_some _ _).symm.trans H; with_reducible exact H2_) | with_reducible exact H | (rw [hy179]; exact H) | exact H
           have Ny179 := Aside0.mk hy179
           clear hy179
           by_cases c50 : y179.length < 17592186044416
           ·rw [if_pos c50] at H
            have LMc50 := Aside0.mk c50
            clear c50
            obtain ⟨y182, hy182⟩ : ∃ y_ : List Int, y_ = (y179 ++ [a1]) := ⟨_, rfl⟩
            replace H : ((some (l0.drop (x5_1 : Int).toNat : List Int)).bind fun y185 => (if y182.length + y185.length < 17592186044416 then (some (y182 ++ y185)) else (none))) = some r := by first | (rw [hy182]; with_reducible exact H) | (have H2_ := (Option.bind_some _ _).symm.trans H; rw [hy182]; with_reducible exact H2_) | (have H2_ := (Option.bind_some _ _).symm.trans H; with_reducible exact H2_) | with_reducible exact H | (rw [hy182]; exact H) | exact H
            have Ny182 := Aside0.mk hy182
            clear hy182
            have c51b0 := eq_true (of_decide_eq_true (by first | (with_reducible assumption) | assumption) : 0 ≤ x5_1)
            have c52b0 := eq_true (of_decide_eq_true (by first | (with_reducible assumption) | assumption) : x5_1 ≤ (l0.length : Int))
            obtain ⟨y185, hy185⟩ : ∃ y_ : List Int, y_ = (l0.drop (x5_1 : Int).toNat) := ⟨_, rfl⟩
            replace H : (if y182.length + y185.length < 17592186044416 then (some (y182 ++ y185)) else (none)) = some r := by first | (rw [hy185]; with_reducible exact H) | (have H2_ := (Option.bind_some _ _).symm.trans H; rw [hy185]; with_reducible exact H2_) | (have H2_ := (Option.bind_some _ _).symm.trans H; with_reducible exact H2_) | with_reducible exact H | (rw [hy185]; exact H) | exact H
            have Ny185 := Aside0.mk hy185
            clear hy185
            by_cases c53 : y182.length + y185.length < 17592186044416
            ·rw [if_pos c53] at H
             have LMc53 := Aside0.mk c53
             clear c53
             obtain ⟨y189, hy189⟩ : ∃ y_ : List Int, y_ = (y182 ++ y185) := ⟨_, rfl⟩
             replace H : (some y189) = some r := by first | (rw [hy189]; with_reducible exact H) | (have H2_ := (Option.bind_some _ _).symm.trans H; rw [hy189]; with_reducible exact H2_) | (have H2_ := (Option.bind_some _ _).symm.trans H; with_reducible exact H2_) | with_reducible exact H | (rw [hy189]; exact H) | exact H
             have Ny189 := Aside0.mk hy189
             clear hy189
             obtain rfl := Option.some.inj H
             have p171 : 0 ≤ (x5_1 : Int) := of_decide_eq_true (by first | (with_reducible assumption) | assumption)
             have q171 : x5_1 < (l0.length : Int) := of_decide_eq_true (by first | (with_reducible assumption) | assumption)
             obtain ⟨ad171, e171, hx171_0⟩ := Kd.at_int (Kd.R_reads' HO_0.out).2.2 x5_1 p171 q171
             cases e171
             replace p171 := eq_true p171
             replace q171 := eq_true q171
             go_wp2_with (first | ((with_reducible refine gate_dst (N := 43) rfl ?_); (try (refine gate_guard (by rfl) ?_; dsimp only)); refine Kd.R_lit (Kd.int .i64) _ 3 ?hg (N := 43) ?hd (xs := ([] : List Int)) (inner := []) (ok := fun _ => True) (okp := fun _ => True) ?hr ?hp (fun _ hk => hk) trivial (Below.refl _ _) (Nat.le_refl _) (by simp) ?_; (case hd => rfl); (case hg => rfl); (case hr => first | (go_simp; done) | (go_simp; rfl)); (case hp => exact (Reps.none _ _)); intro v173 w54 ho55 hb hg_ hnew_; clear hg_ hnew_; (first | rw [← Ny172.out] at ho55 | (simp only [Int.reduceToNat] at ho55; rw [← Ny172.out] at ho55)); have n0_ := Aside0.mk (Kd.R_elder' (q8524_ HO_0.out) (Kd.R_base ho55) hb); have n1_ := Aside0.mk (Kd.R_lower (Kd.R_new' (Kd.R_newM (M := fun k_ => (P0_ k_ ∨ w.heap.size ≤ k_)) ho55 (by first | exact HK.out.1 | exact (show Kept w _ (fun k_ => P0_ k_) from (q8d66_ HK.out)).1) (fun k_ h_ => .inr h_)) (Kd.R_lt (q8524_ HO_0.out))) (below_size (qdb35_ HB.out))); have n2_ := Aside0.mk (Kept.below (S := (fun k_ => P0_ k_)) (q8d66_ HK.out) hb); have n3_ := Aside0.mk (below_step (qdb35_ HB.out) hb); clear HO_0; clear HK; clear HB; have HO_0 := n0_; have HO174 := n1_; have HK := n2_; have HB := n3_; clear n0_ n1_ n2_ n3_; clear hb ho55; have q56 : (x5_1 : Int) ≤ ((l0.length : Int) : Int) := of_decide_eq_true (by first | (with_reducible assumption) | assumption); obtain ⟨i056, hi056, _, hsz56, _⟩ := info_parts info3; have hroom56 : l0.length ≤ co3 := (Kd.R_reads' HO_0.out).2.1; have hC56 : Kd.C (Kd.int .i64) _ (some ad171) l0.length l0 := (Kd.R_reads' HO_0.out).2.2; have hcut56 := cut_to (P := Tryd.prog) 61 3 .i64 Tryd.underlying61 hi056 (some ad171) l0.length co3 x5_1 (of_decide_eq_true (by first | (with_reducible assumption) | assumption)) q56 hroom56; have hr56 := Kd.C_take (m := (x5_1 : Int).toNat) hC56 (by omega); have hy56 : y175.length = (x5_1 : Int).toNat := (by rw [Ny175.out, List.length_take]; omega); rw [← Ny175.out] at hr56; rw [← hy56] at hcut56; have HR178 := Aside0.mk hr56; have HC178 := Aside0.mk (show y175.length ≤ co3 from by omega); clear hr56 hC56 hroom56 hi056 hsz56; have KY56 := Aside0.mk hy56; clear hy56; have KL56 := Aside0.mk (show (x5_1 : Int).toNat ≤ l0.length from by omega); replace q56 := eq_true q56) | ((with_reducible refine gate_builtin (b := .append) (xs := #[.tmp 43, .tmp 46]) rfl ?_); (try (refine gate_guard (by rfl) ?_; dsimp only)); at_builtin; refine Kd.R_append_rows (Kd.int .i64) (w0 := w0) w0.heap.size rfl (.tmp 43) (.tmp 46) 61 3 (.int .i64 0) 8 rfl Tryd.underlying61 info3 rfl (by decide) (by omega) v173 y172 y175 _ _ _ (fun k_ => (P0_ k_ ∨ w.heap.size ≤ k_) ∧ some k_ ≠ (.slice (some ad171) l0.length co3 : Value).ownBlock) (fun _ => False) rfl rfl ?aO ?aR (fun _ _ h => h) (fun _ h => h.elim) ?aF ?aB ?aS ?aL ?_; (case aR => repeat (first | exact (q3f7a_ HR178.out) | (with_reducible refine Kd.C_alloc ?_ _) | (with_reducible refine Kd.C_drewN ?_ _) | (with_reducible refine Kd.C_drew ?_))); (case aB => exact (qdb35_ HB.out)); (case aF => exact (fun k_ hk => ⟨(.inr (Nat.le_trans (by first | exact HK.out.1 | exact (show Kept w _ (fun k_ => P0_ k_) from (q8d66_ HK.out)).1) hk)), Kd.fresh' (Kd.R_lt (q8524_ HO_0.out)) k_ hk⟩)); (case aO => exact (by (with_reducible repeat (first | apply Kd.R_alloc | apply Kd.R_drewN | apply Kd.R_drew)); exact Kd.R_mono HO174.out (fun _ hk => ⟨hk.1.1, hk.2⟩))); (case aS => exact (below_size (qdb35_ HB.out))); (case aL => have := LMc49.out; omega); intro v180 w57 ho hb hg hat; rw [← Ny179.out] at ho; have n0_ := Aside0.mk (Kd.R_after (ok := (fun k_ => (P0_ k_ ∨ w.heap.size ≤ k_))) (q8524_ HO_0.out) hg hat); have n1_ := Aside0.mk (hb); have n2_ := Aside0.mk (Kept.of_grown (S := (fun k_ => P0_ k_)) hg (q8d66_ HK.out) (fun k_ e_ => (HO174.out.1 k_ e_).1.1)); have n3_ := Aside0.mk ((show Kd.C (Kd.int .i64) w57 (some ad171) y175.length y175 from by rw [Ny175.out]; exact Kd.C_take (m := (x5_1 : Int).toNat) ((Kd.R_reads' (Kd.R_after (ok := (fun k_ => (P0_ k_ ∨ w.heap.size ≤ k_))) (q8524_ HO_0.out) hg hat)).2.2) KL56.out)); have n4_ := Aside0.mk (ho); clear HO_0; clear HB; clear HK; clear HR178; clear HO174; have HO_0 := n0_; have HB := n1_; have HK := n2_; have HR178 := n3_; have HO181 := n4_; clear n0_ n1_ n2_ n3_ n4_; clear ho hb hg hat) | ((with_reducible refine gate_builtin (b := .append) (xs := #[.tmp 48, .tmp 50]) rfl ?_); (try (refine gate_guard (by rfl) ?_; dsimp only)); at_builtin; refine Kd.R_append (Kd.int .i64) (w0 := w0) w0.heap.size rfl (.tmp 48) (.tmp 50) 61 3 (.int .i64 0) 8 rfl Tryd.underlying61 info3 rfl (by decide) (by omega) v180 y179 a1 [.int .i64 a1] (fun k_ => (P0_ k_ ∨ w.heap.size ≤ k_) ∧ some k_ ≠ (.slice (some ad171) l0.length co3 : Value).ownBlock) (fun _ => False) rfl rfl ?aP (fun _ hk => hk.elim) ?aF ?aO ?aB ?aS ?aL ?_; (case aP => exact rfl); (case aB => exact (qdb35_ HB.out)); (case aF => exact (fun k_ hk => ⟨(.inr (Nat.le_trans (by first | exact HK.out.1 | exact (show Kept w _ (fun k_ => P0_ k_) from (q8d66_ HK.out)).1) hk)), Kd.fresh' (Kd.R_lt (q8524_ HO_0.out)) k_ hk⟩)); (case aO => exact (q8524_ HO181.out)); (case aS => exact (below_size (qdb35_ HB.out))); (case aL => have := LMc50.out; omega); intro v183 w58 ho hb hg hat; rw [← Ny182.out] at ho; have n0_ := Aside0.mk (Kd.R_after (ok := (fun k_ => (P0_ k_ ∨ w.heap.size ≤ k_))) (q8524_ HO_0.out) hg hat); have n1_ := Aside0.mk (hb); have n2_ := Aside0.mk (Kept.of_grown (S := (fun k_ => P0_ k_)) hg (q8d66_ HK.out) (fun k_ e_ => (HO181.out.1 k_ e_).1)); have n3_ := Aside0.mk ((show Kd.C (Kd.int .i64) w58 (some ad171) y175.length y175 from by rw [Ny175.out]; exact Kd.C_take (m := (x5_1 : Int).toNat) ((Kd.R_reads' (Kd.R_after (ok := (fun k_ => (P0_ k_ ∨ w.heap.size ≤ k_))) (q8524_ HO_0.out) hg hat)).2.2) KL56.out)); have n4_ := Aside0.mk (ho); clear HO_0; clear HB; clear HK; clear HR178; clear HO181; have HO_0 := n0_; have HB := n1_; have HK := n2_; have HR178 := n3_; have HO184 := n4_; clear n0_ n1_ n2_ n3_ n4_; clear ho hb hg hat; have q59 : (x5_1 : Int) ≤ ((l0.length : Int) : Int) := of_decide_eq_true (by first | (with_reducible assumption) | assumption); obtain ⟨i059, hi059, _, hsz59, _⟩ := info_parts info3; have hroom59 : l0.length ≤ co3 := (Kd.R_reads' HO_0.out).2.1; have hC59 : Kd.C (Kd.int .i64) _ (some ad171) l0.length l0 := (Kd.R_reads' HO_0.out).2.2; have q059 : (0 : Int) ≤ (x5_1 : Int) := of_decide_eq_true (by first | (with_reducible assumption) | assumption); have hcut59 := cut_from (P := Tryd.prog) 61 3 .i64 Tryd.underlying61 hi059 1 hsz59 (some ad171) l0.length co3 x5_1 q059 q59; have hr59 := Kd.C_drop (m := (x5_1 : Int).toNat) (c := co3) hC59 (by omega) hroom59; obtain ⟨A59, hA59⟩ : ∃ A1, A1 = (if co3 = (x5_1 : Int).toNat then (some ad171) else ((some ad171) : Option Addr).map (·.add ((x5_1 : Int).toNat * 1))) := ⟨_, rfl⟩; obtain ⟨c59, hc59⟩ : ∃ c1, c1 = co3 - (x5_1 : Int).toNat := ⟨_, rfl⟩; have hy59 : y185.length = l0.length - (x5_1 : Int).toNat := (by rw [Ny185.out, List.length_drop] <;> omega); rw [show (l0).drop (x5_1 : Int).toNat = y185 from Ny185.out.symm] at hr59; replace hr59 : Kd.C (Kd.int .i64) _ A59 y185.length y185 := (by rw [hA59]; exact hr59); rw [← hy59, ← hA59, ← hc59] at hcut59; have HR188 := Aside0.mk hr59; have HC188 := Aside0.mk (show y185.length ≤ c59 from by rw [hy59, hc59]; exact Nat.sub_le_sub_right hroom59 _); clear hr59 hC59 hroom59 hi059 hsz59 hc59; have KY59 := Aside0.mk hy59; have KA59 := Aside0.mk hA59; clear hy59 hA59; have KL59 := Aside0.mk (show (x5_1 : Int).toNat ≤ l0.length from by omega); replace q59 := eq_true q59) | ((with_reducible refine gate_builtin (b := .append) (xs := #[.tmp 52, .tmp 55]) rfl ?_); (try (refine gate_guard (by rfl) ?_; dsimp only)); at_builtin; refine Kd.R_append_rows (Kd.int .i64) (w0 := w0) w0.heap.size rfl (.tmp 52) (.tmp 55) 61 3 (.int .i64 0) 8 rfl Tryd.underlying61 info3 rfl (by decide) (by omega) v183 y182 y185 _ _ _ (fun k_ => (P0_ k_ ∨ w.heap.size ≤ k_) ∧ some k_ ≠ (.slice (some ad171) l0.length co3 : Value).ownBlock) (fun _ => False) rfl rfl ?aO ?aR (fun _ _ h => h) (fun _ h => h.elim) ?aF ?aB ?aS ?aL ?_; (case aR => repeat (first | exact (q3f7a_ HR188.out) | (with_reducible refine Kd.C_alloc ?_ _) | (with_reducible refine Kd.C_drewN ?_ _) | (with_reducible refine Kd.C_drew ?_))); (case aB => exact (qdb35_ HB.out)); (case aF => exact (fun k_ hk => ⟨(.inr (Nat.le_trans (by first | exact HK.out.1 | exact (show Kept w _ (fun k_ => P0_ k_) from (q8d66_ HK.out)).1) hk)), Kd.fresh' (Kd.R_lt (q8524_ HO_0.out)) k_ hk⟩)); (case aO => exact (q8524_ HO184.out)); (case aS => exact (below_size (qdb35_ HB.out))); (case aL => have := LMc53.out; omega); intro v190 w60 ho hb hg hat; rw [← Ny189.out] at ho; have n0_ := Aside0.mk (Kd.R_after (ok := (fun k_ => (P0_ k_ ∨ w.heap.size ≤ k_))) (q8524_ HO_0.out) hg hat); have n1_ := Aside0.mk (hb); have n2_ := Aside0.mk (Kept.of_grown (S := (fun k_ => P0_ k_)) hg (q8d66_ HK.out) (fun k_ e_ => (HO184.out.1 k_ e_).1)); have n3_ := Aside0.mk ((show Kd.C (Kd.int .i64) w60 (some ad171) y175.length y175 from by rw [Ny175.out]; exact Kd.C_take (m := (x5_1 : Int).toNat) ((Kd.R_reads' (Kd.R_after (ok := (fun k_ => (P0_ k_ ∨ w.heap.size ≤ k_))) (q8524_ HO_0.out) hg hat)).2.2) KL56.out)); have n4_ := Aside0.mk ((show Kd.C (Kd.int .i64) w60 A59 y185.length y185 from by rw [Ny185.out, KA59.out]; exact Kd.C_drop (m := (x5_1 : Int).toNat) (c := co3) ((Kd.R_reads' (Kd.R_after (ok := (fun k_ => (P0_ k_ ∨ w.heap.size ≤ k_))) (q8524_ HO_0.out) hg hat)).2.2) KL59.out ((Kd.R_reads' (Kd.R_after (ok := (fun k_ => (P0_ k_ ∨ w.heap.size ≤ k_))) (q8524_ HO_0.out) hg hat)).2.1))); have n5_ := Aside0.mk (ho); clear HO_0; clear HB; clear HK; clear HR178; clear HR188; clear HO184; have HO_0 := n0_; have HB := n1_; have HK := n2_; have HR178 := n3_; have HR188 := n4_; have HO191 := n5_; clear n0_ n1_ n2_ n3_ n4_ n5_; clear ho hb hg hat))
             go_ret
             exact ⟨_, by first | rfl | (simp [errW_none, errW_some] <;> rfl) | (simp [*, errW_none, errW_some] <;> rfl), by (with_reducible repeat (first | apply Kd.R_alloc | apply Kd.R_drewN | apply Kd.R_drew)); exact Kd.R_mono HO191.out (fun _ hk => hk.1), (qdb35_ HB.out), (q8d66_ HK.out)⟩
            ·rw [if_neg c53] at H
             exact absurd H (by simp)
           ·rw [if_neg c50] at H
            exact absurd H (by simp)
          ·rw [if_neg c49] at H
           exact absurd H (by simp)
         ·rw [if_neg c48] at H
          exact absurd H (by simp)
       ·rw [if_neg c45] at H
        exact absurd H (by simp)
      ·rw [if_neg c44] at H
       have c44b0 : decide (x5_1 < (l0.length : Int)) = false := decide_eq_false c44
       clear c44
       obtain ⟨y192, hy192⟩ : ∃ y_ : List Int, y_ = (([] : List Int)) := ⟨_, rfl⟩
       replace H : (if 0 ≤ x5_1 then (if x5_1 ≤ (l0.length : Int) then ((some (l0.take (x5_1 : Int).toNat : List Int)).bind fun y195 => (if y192.length + y195.length < 17592186044416 then ((some (y192 ++ y195 : List Int)).bind fun y199 => (if y199.length < 17592186044416 then ((some (y199 ++ [a1] : List Int)).bind fun y202 => ((some (l0.drop (x5_1 : Int).toNat : List Int)).bind fun y205 => (if y202.length + y205.length < 17592186044416 then (some (y202 ++ y205)) else (none)))) else (none))) else (none))) else (none)) else (none)) = some r := by first | (rw [hy192]; with_reducible exact H) | (have H2_ := (Option.bind_some _ _).symm.trans H; rw [hy192]; with_reducible exact H2_) | (have H2_ := (Option.bind_some _ _).symm.trans H; with_reducible exact H2_) | with_reducible exact H | (rw [hy192]; exact H) | exact H
       have Ny192 := Aside0.mk hy192
       clear hy192
       by_cases c61 : 0 ≤ x5_1
       ·rw [if_pos c61] at H
        have c61b0 := eq_true c61
        have c61b1 : decide (0 ≤ x5_1) = true := decide_eq_true c61
        clear c61
        by_cases c62 : x5_1 ≤ (l0.length : Int)
        ·rw [if_pos c62] at H
         have c62b0 := eq_true c62
         have c62b1 : decide (x5_1 ≤ (l0.length : Int)) = true := decide_eq_true c62
         clear c62
         obtain ⟨y195, hy195⟩ : ∃ y_ : List Int, y_ = (l0.take (x5_1 : Int).toNat) := ⟨_, rfl⟩
         replace H : (if y192.length + y195.length < 17592186044416 then ((some (y192 ++ y195 : List Int)).bind fun y199 => (if y199.length < 17592186044416 then ((some (y199 ++ [a1] : List Int)).bind fun y202 => ((some (l0.drop (x5_1 : Int).toNat : List Int)).bind fun y205 => (if y202.length + y205.length < 17592186044416 then (some (y202 ++ y205)) else (none)))) else (none))) else (none)) = some r := by first | (rw [hy195]; with_reducible exact H) | (have H2_ := (Option.bind_some _ _).symm.trans H; rw [hy195]; with_reducible exact H2_) | (have H2_ := (Option.bind_some _ _).symm.trans H; with_reducible exact H2_) | with_reducible exact H | (rw [hy195]; exact H) | exact H
         have Ny195 := Aside0.mk hy195
         clear hy195
         by_cases c63 : y192.length + y195.length < 17592186044416
         ·rw [if_pos c63] at H
          have LMc63 := Aside0.mk c63
          clear c63
          obtain ⟨y199, hy199⟩ : ∃ y_ : List Int, y_ = (y192 ++ y195) := ⟨_, rfl⟩
          replace H : (if y199.length < 17592186044416 then ((some (y199 ++ [a1] : List Int)).bind fun y202 => ((some (l0.drop (x5_1 : Int).toNat : List Int)).bind fun y205 => (if y202.length + y205.length < 17592186044416 then (some (y202 ++ y205)) else (none)))) else (none)) = some r := by first | (rw [hy199]; with_reducible exact H) | (have H2_ := (Option.bind_some _ _).symm.trans H; rw [hy199]; with_reducible exact H2_) | (have H2_ := (Option.bind_some _ _).symm.trans H; with_reducible exact H2_) | with_reducible exact H | (rw [hy199]; exact H) | exact H
          have Ny199 := Aside0.mk hy199
          clear hy199
          by_cases c64 : y199.length < 17592186044416
          ·rw [if_pos c64] at H
           have LMc64 := Aside0.mk c64
           clear c64
           obtain ⟨y202, hy202⟩ : ∃ y_ : List Int, y_ = (y199 ++ [a1]) := ⟨_, rfl⟩
           replace H : ((some (l0.drop (x5_1 : Int).toNat : List Int)).bind fun y205 => (if y202.length + y205.length < 17592186044416 then (some (y202 ++ y205)) else (none))) = some r := by first | (rw [hy202]; with_reducible exact H) | (have H2_ := (Option.bind_some _ _).symm.trans H; rw [hy202]; with_reducible exact H2_) | (have H2_ := (Option.bind_some _ _).symm.trans H; with_reducible exact H2_) | with_reducible exact H | (rw [hy202]; exact H) | exact H
           have Ny202 := Aside0.mk hy202
           clear hy202
           have c65b0 := eq_true (of_decide_eq_true (by first | (with_reducible assumption) | assumption) : 0 ≤ x5_1)
           have c66b0 := eq_true (of_decide_eq_true (by first | (with_reducible assumption) | assumption) : x5_1 ≤ (l0.length : Int))
           obtain ⟨y205, hy205⟩ : ∃ y_ : List Int, y_ = (l0.drop (x5_1 : Int).toNat) := ⟨_, rfl⟩
           replace H : (if y202.length + y205.length < 17592186044416 then (some (y202 ++ y205)) else (none)) = some r := by first | (rw [hy205]; with_reducible exact H) | (have H2_ := (Option.bind_some _ _).symm.trans H; rw [hy205]; with_reducible exact H2_) | (have H2_ := (Option.bind_some _ _).symm.trans H; with_reducible exact H2_) | with_reducible exact H | (rw [hy205]; exact H) | exact H
           have Ny205 := Aside0.mk hy205
           clear hy205
           by_cases c67 : y202.length + y205.length < 17592186044416
           ·rw [if_pos c67] at H
            have LMc67 := Aside0.mk c67
            clear c67
            obtain ⟨y209, hy209⟩ : ∃ y_ : List Int, y_ = (y202 ++ y205) := ⟨_, rfl⟩
            replace H : (some y209) = some r := by first | (rw [hy209]; with_reducible exact H) | (have H2_ := (Option.bind_some _ _).symm.trans H; rw [hy209]; with_reducible exact H2_) | (have H2_ := (Option.bind_some _ _).symm.trans H; with_reducible exact H2_) | with_reducible exact H | (rw [hy209]; exact H) | exact H
            have Ny209 := Aside0.mk hy209
            clear hy209
            obtain rfl := Option.some.inj H
            go_wp2_with (first | ((with_reducible refine gate_dst (N := 43) rfl ?_); (try (refine gate_guard (by rfl) ?_; dsimp only)); refine Kd.R_lit (Kd.int .i64) _ 3 ?hg (N := 43) ?hd (xs := ([] : List Int)) (inner := []) (ok := fun _ => True) (okp := fun _ => True) ?hr ?hp (fun _ hk => hk) trivial (Below.refl _ _) (Nat.le_refl _) (by simp) ?_; (case hd => rfl); (case hg => rfl); (case hr => first | (go_simp; done) | (go_simp; rfl)); (case hp => exact (Reps.none _ _)); intro v193 w68 ho69 hb hg_ hnew_; clear hg_ hnew_; (first | rw [← Ny192.out] at ho69 | (simp only [Int.reduceToNat] at ho69; rw [← Ny192.out] at ho69)); have n0_ := Aside0.mk (Kd.R_elder' (q8524_ HO_0.out) (Kd.R_base ho69) hb); have n1_ := Aside0.mk (Kd.R_lower (Kd.R_new' (Kd.R_newM (M := fun k_ => (P0_ k_ ∨ w.heap.size ≤ k_)) ho69 (by first | exact HK.out.1 | exact (show Kept w _ (fun k_ => P0_ k_) from (q8d66_ HK.out)).1) (fun k_ h_ => .inr h_)) (Kd.R_lt (q8524_ HO_0.out))) (below_size (qdb35_ HB.out))); have n2_ := Aside0.mk (Kept.below (S := (fun k_ => P0_ k_)) (q8d66_ HK.out) hb); have n3_ := Aside0.mk (below_step (qdb35_ HB.out) hb); clear HO_0; clear HK; clear HB; have HO_0 := n0_; have HO194 := n1_; have HK := n2_; have HB := n3_; clear n0_ n1_ n2_ n3_; clear hb ho69; have q70 : (x5_1 : Int) ≤ ((l0.length : Int) : Int) := of_decide_eq_true (by first | (with_reducible assumption) | assumption); obtain ⟨i070, hi070, _, hsz70, _⟩ := info_parts info3; have hroom70 : l0.length ≤ co3 := (Kd.R_reads' HO_0.out).2.1; have hC70 : Kd.C (Kd.int .i64) _ Ao3 l0.length l0 := (Kd.R_reads' HO_0.out).2.2; have hcut70 := cut_to (P := Tryd.prog) 61 3 .i64 Tryd.underlying61 hi070 Ao3 l0.length co3 x5_1 (of_decide_eq_true (by first | (with_reducible assumption) | assumption)) q70 hroom70; have hr70 := Kd.C_take (m := (x5_1 : Int).toNat) hC70 (by omega); have hy70 : y195.length = (x5_1 : Int).toNat := (by rw [Ny195.out, List.length_take]; omega); rw [← Ny195.out] at hr70; rw [← hy70] at hcut70; have HR198 := Aside0.mk hr70; have HC198 := Aside0.mk (show y195.length ≤ co3 from by omega); clear hr70 hC70 hroom70 hi070 hsz70; have KY70 := Aside0.mk hy70; clear hy70; have KL70 := Aside0.mk (show (x5_1 : Int).toNat ≤ l0.length from by omega); replace q70 := eq_true q70) | ((with_reducible refine gate_builtin (b := .append) (xs := #[.tmp 43, .tmp 46]) rfl ?_); (try (refine gate_guard (by rfl) ?_; dsimp only)); at_builtin; refine Kd.R_append_rows (Kd.int .i64) (w0 := w0) w0.heap.size rfl (.tmp 43) (.tmp 46) 61 3 (.int .i64 0) 8 rfl Tryd.underlying61 info3 rfl (by decide) (by omega) v193 y192 y195 _ _ _ (fun k_ => (P0_ k_ ∨ w.heap.size ≤ k_) ∧ some k_ ≠ (.slice Ao3 l0.length co3 : Value).ownBlock) (fun _ => False) rfl rfl ?aO ?aR (fun _ _ h => h) (fun _ h => h.elim) ?aF ?aB ?aS ?aL ?_; (case aR => repeat (first | exact (q3f7a_ HR198.out) | (with_reducible refine Kd.C_alloc ?_ _) | (with_reducible refine Kd.C_drewN ?_ _) | (with_reducible refine Kd.C_drew ?_))); (case aB => exact (qdb35_ HB.out)); (case aF => exact (fun k_ hk => ⟨(.inr (Nat.le_trans (by first | exact HK.out.1 | exact (show Kept w _ (fun k_ => P0_ k_) from (q8d66_ HK.out)).1) hk)), Kd.fresh' (Kd.R_lt (q8524_ HO_0.out)) k_ hk⟩)); (case aO => exact (by (with_reducible repeat (first | apply Kd.R_alloc | apply Kd.R_drewN | apply Kd.R_drew)); exact Kd.R_mono HO194.out (fun _ hk => ⟨hk.1.1, hk.2⟩))); (case aS => exact (below_size (qdb35_ HB.out))); (case aL => have := LMc63.out; omega); intro v200 w71 ho hb hg hat; rw [← Ny199.out] at ho; have n0_ := Aside0.mk (Kd.R_after (ok := (fun k_ => (P0_ k_ ∨ w.heap.size ≤ k_))) (q8524_ HO_0.out) hg hat); have n1_ := Aside0.mk (hb); have n2_ := Aside0.mk (Kept.of_grown (S := (fun k_ => P0_ k_)) hg (q8d66_ HK.out) (fun k_ e_ => (HO194.out.1 k_ e_).1.1)); have n3_ := Aside0.mk ((show Kd.C (Kd.int .i64) w71 Ao3 y195.length y195 from by rw [Ny195.out]; exact Kd.C_take (m := (x5_1 : Int).toNat) ((Kd.R_reads' (Kd.R_after (ok := (fun k_ => (P0_ k_ ∨ w.heap.size ≤ k_))) (q8524_ HO_0.out) hg hat)).2.2) KL70.out)); have n4_ := Aside0.mk (ho); clear HO_0; clear HB; clear HK; clear HR198; clear HO194; have HO_0 := n0_; have HB := n1_; have HK := n2_; have HR198 := n3_; have HO201 := n4_; clear n0_ n1_ n2_ n3_ n4_; clear ho hb hg hat) | ((with_reducible refine gate_builtin (b := .append) (xs := #[.tmp 48, .tmp 50]) rfl ?_); (try (refine gate_guard (by rfl) ?_; dsimp only)); at_builtin; refine Kd.R_append (Kd.int .i64) (w0 := w0) w0.heap.size rfl (.tmp 48) (.tmp 50) 61 3 (.int .i64 0) 8 rfl Tryd.underlying61 info3 rfl (by decide) (by omega) v200 y199 a1 [.int .i64 a1] (fun k_ => (P0_ k_ ∨ w.heap.size ≤ k_) ∧ some k_ ≠ (.slice Ao3 l0.length co3 : Value).ownBlock) (fun _ => False) rfl rfl ?aP (fun _ hk => hk.elim) ?aF ?aO ?aB ?aS ?aL ?_; (case aP => exact rfl); (case aB => exact (qdb35_ HB.out)); (case aF => exact (fun k_ hk => ⟨(.inr (Nat.le_trans (by first | exact HK.out.1 | exact (show Kept w _ (fun k_ => P0_ k_) from (q8d66_ HK.out)).1) hk)), Kd.fresh' (Kd.R_lt (q8524_ HO_0.out)) k_ hk⟩)); (case aO => exact (q8524_ HO201.out)); (case aS => exact (below_size (qdb35_ HB.out))); (case aL => have := LMc64.out; omega); intro v203 w72 ho hb hg hat; rw [← Ny202.out] at ho; have n0_ := Aside0.mk (Kd.R_after (ok := (fun k_ => (P0_ k_ ∨ w.heap.size ≤ k_))) (q8524_ HO_0.out) hg hat); have n1_ := Aside0.mk (hb); have n2_ := Aside0.mk (Kept.of_grown (S := (fun k_ => P0_ k_)) hg (q8d66_ HK.out) (fun k_ e_ => (HO201.out.1 k_ e_).1)); have n3_ := Aside0.mk ((show Kd.C (Kd.int .i64) w72 Ao3 y195.length y195 from by rw [Ny195.out]; exact Kd.C_take (m := (x5_1 : Int).toNat) ((Kd.R_reads' (Kd.R_after (ok := (fun k_ => (P0_ k_ ∨ w.heap.size ≤ k_))) (q8524_ HO_0.out) hg hat)).2.2) KL70.out)); have n4_ := Aside0.mk (ho); clear HO_0; clear HB; clear HK; clear HR198; clear HO201; have HO_0 := n0_; have HB := n1_; have HK := n2_; have HR198 := n3_; have HO204 := n4_; clear n0_ n1_ n2_ n3_ n4_; clear ho hb hg hat; have q73 : (x5_1 : Int) ≤ ((l0.length : Int) : Int) := of_decide_eq_true (by first | (with_reducible assumption) | assumption); obtain ⟨i073, hi073, _, hsz73, _⟩ := info_parts info3; have hroom73 : l0.length ≤ co3 := (Kd.R_reads' HO_0.out).2.1; have hC73 : Kd.C (Kd.int .i64) _ Ao3 l0.length l0 := (Kd.R_reads' HO_0.out).2.2; have q073 : (0 : Int) ≤ (x5_1 : Int) := of_decide_eq_true (by first | (with_reducible assumption) | assumption); have hcut73 := cut_from (P := Tryd.prog) 61 3 .i64 Tryd.underlying61 hi073 1 hsz73 Ao3 l0.length co3 x5_1 q073 q73; have hr73 := Kd.C_drop (m := (x5_1 : Int).toNat) (c := co3) hC73 (by omega) hroom73; obtain ⟨A73, hA73⟩ : ∃ A1, A1 = (if co3 = (x5_1 : Int).toNat then Ao3 else (Ao3 : Option Addr).map (·.add ((x5_1 : Int).toNat * 1))) := ⟨_, rfl⟩; obtain ⟨c73, hc73⟩ : ∃ c1, c1 = co3 - (x5_1 : Int).toNat := ⟨_, rfl⟩; have hy73 : y205.length = l0.length - (x5_1 : Int).toNat := (by rw [Ny205.out, List.length_drop] <;> omega); rw [show (l0).drop (x5_1 : Int).toNat = y205 from Ny205.out.symm] at hr73; replace hr73 : Kd.C (Kd.int .i64) _ A73 y205.length y205 := (by rw [hA73]; exact hr73); rw [← hy73, ← hA73, ← hc73] at hcut73; have HR208 := Aside0.mk hr73; have HC208 := Aside0.mk (show y205.length ≤ c73 from by rw [hy73, hc73]; exact Nat.sub_le_sub_right hroom73 _); clear hr73 hC73 hroom73 hi073 hsz73 hc73; have KY73 := Aside0.mk hy73; have KA73 := Aside0.mk hA73; clear hy73 hA73; have KL73 := Aside0.mk (show (x5_1 : Int).toNat ≤ l0.length from by omega); replace q73 := eq_true q73) | ((with_reducible refine gate_builtin (b := .append) (xs := #[.tmp 52, .tmp 55]) rfl ?_); (try (refine gate_guard (by rfl) ?_; dsimp only)); at_builtin; refine Kd.R_append_rows (Kd.int .i64) (w0 := w0) w0.heap.size rfl (.tmp 52) (.tmp 55) 61 3 (.int .i64 0) 8 rfl Tryd.underlying61 info3 rfl (by decide) (by omega) v203 y202 y205 _ _ _ (fun k_ => (P0_ k_ ∨ w.heap.size ≤ k_) ∧ some k_ ≠ (.slice Ao3 l0.length co3 : Value).ownBlock) (fun _ => False) rfl rfl ?aO ?aR (fun _ _ h => h) (fun _ h => h.elim) ?aF ?aB ?aS ?aL ?_; (case aR => repeat (first | exact (q3f7a_ HR208.out) | (with_reducible refine Kd.C_alloc ?_ _) | (with_reducible refine Kd.C_drewN ?_ _) | (with_reducible refine Kd.C_drew ?_))); (case aB => exact (qdb35_ HB.out)); (case aF => exact (fun k_ hk => ⟨(.inr (Nat.le_trans (by first | exact HK.out.1 | exact (show Kept w _ (fun k_ => P0_ k_) from (q8d66_ HK.out)).1) hk)), Kd.fresh' (Kd.R_lt (q8524_ HO_0.out)) k_ hk⟩)); (case aO => exact (q8524_ HO204.out)); (case aS => exact (below_size (qdb35_ HB.out))); (case aL => have := LMc67.out; omega); intro v210 w74 ho hb hg hat; rw [← Ny209.out] at ho; have n0_ := Aside0.mk (Kd.R_after (ok := (fun k_ => (P0_ k_ ∨ w.heap.size ≤ k_))) (q8524_ HO_0.out) hg hat); have n1_ := Aside0.mk (hb); have n2_ := Aside0.mk (Kept.of_grown (S := (fun k_ => P0_ k_)) hg (q8d66_ HK.out) (fun k_ e_ => (HO204.out.1 k_ e_).1)); have n3_ := Aside0.mk ((show Kd.C (Kd.int .i64) w74 Ao3 y195.length y195 from by rw [Ny195.out]; exact Kd.C_take (m := (x5_1 : Int).toNat) ((Kd.R_reads' (Kd.R_after (ok := (fun k_ => (P0_ k_ ∨ w.heap.size ≤ k_))) (q8524_ HO_0.out) hg hat)).2.2) KL70.out)); have n4_ := Aside0.mk ((show Kd.C (Kd.int .i64) w74 A73 y205.length y205 from by rw [Ny205.out, KA73.out]; exact Kd.C_drop (m := (x5_1 : Int).toNat) (c := co3) ((Kd.R_reads' (Kd.R_after (ok := (fun k_ => (P0_ k_ ∨ w.heap.size ≤ k_))) (q8524_ HO_0.out) hg hat)).2.2) KL73.out ((Kd.R_reads' (Kd.R_after (ok := (fun k_ => (P0_ k_ ∨ w.heap.size ≤ k_))) (q8524_ HO_0.out) hg hat)).2.1))); have n5_ := Aside0.mk (ho); clear HO_0; clear HB; clear HK; clear HR198; clear HR208; clear HO204; have HO_0 := n0_; have HB := n1_; have HK := n2_; have HR198 := n3_; have HR208 := n4_; have HO211 := n5_; clear n0_ n1_ n2_ n3_ n4_ n5_; clear ho hb hg hat))
            go_ret
            exact ⟨_, by first | rfl | (simp [errW_none, errW_some] <;> rfl) | (simp [*, errW_none, errW_some] <;> rfl), by (with_reducible repeat (first | apply Kd.R_alloc | apply Kd.R_drewN | apply Kd.R_drew)); exact Kd.R_mono HO211.out (fun _ hk => hk.1), (qdb35_ HB.out), (q8d66_ HK.out)⟩
           ·rw [if_neg c67] at H
            exact absurd H (by simp)
          ·rw [if_neg c64] at H
           exact absurd H (by simp)
         ·rw [if_neg c63] at H
          exact absurd H (by simp)
        ·rw [if_neg c62] at H
         exact absurd H (by simp)
       ·rw [if_neg c61] at H
        exact absurd H (by simp)

end Go.Proofs.YtnlakdpfkgjdaaaDoor.G

/- The reference's marks: what Mark and marks come to. Conditions: bounds on lengths. -/
namespace Go.Proofs.YtnlakdpfkgjdaaaDoor.G
open Go.RowKit Go.Cav Go.Proofs.YtnlakdpfkgjdaaaDoorW.PrintWords Go.Proofs.YtnlakdpfkgjdaaaDoorW.PrintLast Go.Proofs.YtnlakdpfkgjdaaaDoorW.PrintMore
/-- strictly rising -/
def upM : List Int → Prop
  | [] => True
  | [_] => True
  | a :: b :: r => a < b ∧ upM (b :: r)
theorem upM_tail {a : Int} {r : List Int} (h : upM (a :: r)) : upM r := by
  cases r with
  | nil => trivial
  | cons b r => exact h.2
theorem upM_lt : ∀ {r : List Int} {a : Int}, upM (a :: r) → ∀ x ∈ r, a < x
  | b :: r, a, h, x, hx => by
    rcases List.mem_cons.1 hx with rfl | hx
    · exact h.1
    · have := upM_lt h.2 x hx; have := h.1; omega
/-- a mark more, where it may be -/
def insM (x : Int) : List Int → List Int
  | [] => [x]
  | a :: r => if a < x then a :: insM x r else if a = x then a :: r else x :: a :: r
def markL (l : List Int) (x : Int) : List Int := if x < 0 ∨ x > 16384 then l else insM x l
theorem insM_mem (x y : Int) : ∀ l, y ∈ insM x l ↔ y = x ∨ y ∈ l
  | [] => by simp [insM]
  | a :: r => by
    unfold insM
    split
    · rw [List.mem_cons, insM_mem x y r, List.mem_cons]; constructor <;> rintro (h | h | h) <;> simp [h]
    · split
      · rename_i h; subst h; simp
      · simp
theorem insM_up (x : Int) : ∀ l, upM l → upM (insM x l)
  | [], _ => trivial
  | a :: r, h => by
    unfold insM
    split
    · rename_i hx
      have ih := insM_up x r (upM_tail h)
      cases hr : insM x r with
      | nil => trivial
      | cons b t =>
        rw [hr] at ih
        refine ⟨?_, ih⟩
        have hb : b ∈ insM x r := by rw [hr]; simp
        rcases (insM_mem x b r).1 hb with e | e
        · omega
        · exact upM_lt h b e
    · split
      · exact h
      · exact ⟨by omega, h⟩
theorem insM_len (x : Int) : ∀ l, (insM x l).length ≤ l.length + 1
  | [] => by simp [insM]
  | a :: r => by
    have := insM_len x r
    unfold insM
    split
    · simp; omega
    · split <;> simp
/-- .. by the place where it stands -/
theorem insM_at (x : Int) : ∀ (l : List Int) (i : Nat), upM l → i ≤ l.length → (∀ y ∈ l.take i, y < x) → (∀ y ∈ l.drop i, x ≤ y) → insM x l = if l[i]? = some x then l else l.take i ++ x :: l.drop i
  | [], i, _, hi, _, _ => by
    obtain rfl : i = 0 := by simpa using hi
    rfl
  | a :: r, 0, h, _, _, h2 => by
    have := h2 a (by simp)
    unfold insM
    rw [if_neg (by omega)]
    simp
  | a :: r, i + 1, h, hi, h1, h2 => by
    have ha := h1 a (by simp)
    have ih := insM_at x r i (upM_tail h) (by simpa using hi) (fun y hy => h1 y (by simp [hy])) (fun y hy => h2 y (by simpa using hy))
    unfold insM
    rw [if_pos ha, ih]
    simp only [List.getElem?_cons_succ, List.take_succ_cons, List.drop_succ_cons]
    split <;> rfl
def tailE (l : List Int) (x i : Int) : Option (List Int) :=
  if x < 0 then some l else if x > 16384 then some l else if i < (l.length : Int) then (if 0 ≤ i then (if rd l i = x then some l else (if i ≤ (l.length : Int) then (if ([] : List Int).length + (l.take i.toNat).length < 17592186044416 then (if ([] ++ l.take i.toNat : List Int).length < 17592186044416 then (if (([] ++ l.take i.toNat) ++ [x] : List Int).length + (l.drop i.toNat).length < 17592186044416 then some ((([] ++ l.take i.toNat) ++ [x]) ++ l.drop i.toNat) else none) else none) else none) else none)) else none)
  else (if 0 ≤ i then (if i ≤ (l.length : Int) then (if ([] : List Int).length + (l.take i.toNat).length < 17592186044416 then (if ([] ++ l.take i.toNat : List Int).length < 17592186044416 then (if (([] ++ l.take i.toNat) ++ [x] : List Int).length + (l.drop i.toNat).length < 17592186044416 then some ((([] ++ l.take i.toNat) ++ [x]) ++ l.drop i.toNat) else none) else none) else none) else none) else none)
theorem tail_ok (l : List Int) (x : Int) (hu : upM l) (hl : l.length ≤ 1000000000) (i : Nat) (hi : i ≤ l.length) (h1 : ∀ y ∈ l.take i, y < x) (h2 : ∀ y ∈ l.drop i, x ≤ y) : tailE l x (i : Int) = some (markL l x) := by
  unfold tailE markL
  by_cases c : x < 0
  · rw [if_pos c, if_pos (.inl c)]
  · rw [if_neg c]
    by_cases d : x > 16384
    · rw [if_pos d, if_pos (.inr d)]
    · rw [if_neg d, if_neg (show ¬ (x < 0 ∨ x > 16384) by omega), insM_at x l i hu hi h1 h2, Int.toNat_natCast]
      have s1 : ([] : List Int).length + (l.take i).length < 17592186044416 := by rw [List.length_take, List.length_nil]; omega
      have s2 : ([] ++ l.take i : List Int).length < 17592186044416 := by rw [List.nil_append, List.length_take]; omega
      have s3 : (([] ++ l.take i) ++ [x] : List Int).length + (l.drop i).length < 17592186044416 := by rw [List.nil_append, List.length_append, List.length_take, List.length_drop, List.length_singleton]; omega
      have e : (([] ++ l.take i) ++ [x]) ++ l.drop i = l.take i ++ x :: l.drop i := by simp
      by_cases f : i < l.length
      · rw [if_pos (show (i : Int) < (l.length : Int) by omega), if_pos (show (0 : Int) ≤ i by omega)]
        have er : rd l (i : Int) = l[i] := by unfold rd; rw [Int.toNat_natCast, List.getD_eq_getElem?_getD, List.getElem?_eq_getElem f]; rfl
        rw [er, List.getElem?_eq_getElem f]
        by_cases g : l[i] = x
        · rw [if_pos g, if_pos (by rw [g])]
        · rw [if_neg g, if_neg (fun h => g (Option.some.inj h)), if_pos (show (i : Int) ≤ (l.length : Int) by omega), if_pos s1, if_pos s2, if_pos s3, e]
      · rw [if_neg (show ¬ (i : Int) < (l.length : Int) by omega), if_pos (show (0 : Int) ≤ i by omega), if_pos (show (i : Int) ≤ (l.length : Int) by omega), if_pos s1, if_pos s2, if_pos s3, e, if_neg]
        rw [List.getElem?_eq_none (by omega)]; simp
theorem mark_loop (l : List Int) (x : Int) (hu : upM l) (hl : l.length ≤ 1000000000) : ∀ (i k : Nat), i ≤ l.length → (∀ y ∈ l.drop i, x ≤ y) → caravanref1_Mark.l0 (k + i + 1) l x (i : Int) = some (markL l x)
  | 0, k, hi, h2 => by
    rw [caravanref1_Mark.l0, if_neg (by omega)]
    exact tail_ok l x hu hl 0 hi (by simp) h2
  | i + 1, k, hi, h2 => by
    have hlt : i < l.length := by omega
    have ew : wrap64 (((i + 1 : Nat) : Int) - 1) = (i : Int) := by rw [w64 _ (by omega) (by omega)]; omega
    have er : rd l (i : Int) = l[i] := by unfold rd; rw [Int.toNat_natCast, List.getD_eq_getElem?_getD, List.getElem?_eq_getElem hlt]; rfl
    rw [show k + (i + 1) + 1 = (k + i + 1) + 1 by omega, caravanref1_Mark.l0, if_pos (by omega), ew, if_pos (by omega), if_pos (by omega), er]
    by_cases c : l[i] ≥ x
    · rw [if_pos c]
      refine mark_loop l x hu hl i k (by omega) fun y hy => ?_
      rw [List.drop_eq_getElem_cons hlt] at hy
      rcases List.mem_cons.1 hy with rfl | hy
      · exact c
      · exact h2 y hy
    · rw [if_neg c]
      refine tail_ok l x hu hl (i + 1) hi (fun y hy => ?_) h2
      obtain ⟨j, hj, rfl⟩ := List.getElem_of_mem hy
      rw [List.length_take] at hj
      rw [List.getElem_take]
      have key : ∀ (l : List Int), upM l → ∀ (a b : Nat) (ha : a < l.length) (hb : b < l.length), a ≤ b → l[a] ≤ l[b] := by
        intro l hu
        induction l with
        | nil => intro a b ha; simp at ha
        | cons q l ih =>
          intro a b ha hb hab
          cases a with
          | zero =>
            cases b with
            | zero => simp
            | succ b =>
              have hb' : b < l.length := by simpa using hb
              have := upM_lt hu l[b] (List.getElem_mem hb')
              simp; omega
          | succ a =>
            cases b with
            | zero => omega
            | succ b => simpa using ih (upM_tail hu) a b (by simpa using ha) (by simpa using hb) (by omega)
      have := key l hu j i (by omega) hlt (by omega)
      omega
theorem mark_f (l : List Int) (x : Int) (hu : upM l) (hl : l.length ≤ 1000000000) (k : Nat) (hk : l.length + 1 ≤ k) : caravanref1_Mark.f k l x = some (markL l x) := by
  obtain ⟨d, rfl⟩ : ∃ d, k = d + l.length + 1 := ⟨k - l.length - 1, by omega⟩
  exact mark_loop l x hu hl l.length d (Nat.le_refl _) (by simp)
theorem markL_up {l : List Int} (x : Int) (h : upM l) : upM (markL l x) := by unfold markL; split; exact h; exact insM_up x l h
theorem markL_len (l : List Int) (x : Int) : (markL l x).length ≤ l.length + 1 := by
  unfold markL
  split
  · omega
  · exact insM_len x l
theorem markL_mem (l : List Int) (x y : Int) : y ∈ markL l x ↔ y ∈ l ∨ (y = x ∧ 0 ≤ x ∧ x ≤ 16384) := by
  unfold markL
  split
  · exact ⟨.inl, fun h => h.elim id fun ⟨_, h1, h2⟩ => by omega⟩
  · rw [insM_mem]
    exact ⟨fun h => h.elim (fun e => .inr ⟨e, by omega, by omega⟩) .inl, fun h => h.elim .inr fun h => .inl h.1⟩
end Go.Proofs.YtnlakdpfkgjdaaaDoor.G

/- The reference's marks of lists of spans, and what its Mix says. No conditions. -/
namespace Go.Proofs.YtnlakdpfkgjdaaaDoor.G
open Go.RowKit Go.Cav Go.Proofs.YtnlakdpfkgjdaaaDoorW.PrintWords Go.Proofs.YtnlakdpfkgjdaaaDoorW.PrintLast Go.Proofs.YtnlakdpfkgjdaaaDoorW.PrintMore
/-- the marks of one span more -/
def mark1 (l : List Int) (x : S31) : List Int := if x.f0 ≤ x.f1 then (if x.f1 < 16384 then markL (markL l x.f0) (x.f1 + 1) else markL l x.f0) else l
def marksL (q : List S31) : List Int := q.foldl mark1 [0, 16384]
theorem mark1_up {l : List Int} (x : S31) (h : upM l) : upM (mark1 l x) := by
  unfold mark1
  split
  · split
    · exact markL_up _ (markL_up _ h)
    · exact markL_up _ h
  · exact h
theorem mark1_old {l : List Int} (x : S31) {y : Int} (h : y ∈ l) : y ∈ mark1 l x := by
  unfold mark1
  split
  · split
    · exact (markL_mem _ _ _).2 (.inl ((markL_mem _ _ _).2 (.inl h)))
    · exact (markL_mem _ _ _).2 (.inl h)
  · exact h
theorem mark1_in {l : List Int} (x : S31) (h : ∀ y ∈ l, 0 ≤ y ∧ y ≤ 16384) : ∀ y ∈ mark1 l x, 0 ≤ y ∧ y ≤ 16384 := by
  have key : ∀ (l : List Int) (v : Int), (∀ y ∈ l, 0 ≤ y ∧ y ≤ 16384) → ∀ y ∈ markL l v, 0 ≤ y ∧ y ≤ 16384 := fun l v h y hy => by
    rcases (markL_mem _ _ _).1 hy with e | ⟨rfl, e⟩
    · exact h y e
    · exact e
  unfold mark1
  split
  · split
    · exact key _ _ (key _ _ h)
    · exact key _ _ h
  · exact h
theorem mark1_len (l : List Int) (x : S31) : (mark1 l x).length ≤ l.length + 2 := by
  have a := markL_len l x.f0
  have b := markL_len (markL l x.f0) (x.f1 + 1)
  unfold mark1
  split
  · split <;> omega
  · omega
theorem mark1_new (l : List Int) (x : S31) (h : x.f0 ≤ x.f1) : (0 ≤ x.f0 → x.f0 ≤ 16384 → x.f0 ∈ mark1 l x) ∧ (0 ≤ x.f1 + 1 → x.f1 + 1 ≤ 16384 → x.f1 + 1 ∈ mark1 l x) := by
  unfold mark1
  rw [if_pos h]
  refine ⟨fun a b => ?_, fun a b => ?_⟩
  · split
    · exact (markL_mem _ _ _).2 (.inl ((markL_mem _ _ _).2 (.inr ⟨rfl, a, b⟩)))
    · exact (markL_mem _ _ _).2 (.inr ⟨rfl, a, b⟩)
  · rw [if_pos (by omega)]
    exact (markL_mem _ _ _).2 (.inr ⟨rfl, a, b⟩)
theorem marks_fold : ∀ (q : List S31) (l : List Int), upM l → (∀ y ∈ l, 0 ≤ y ∧ y ≤ 16384) → upM (q.foldl mark1 l) ∧ (∀ y ∈ q.foldl mark1 l, 0 ≤ y ∧ y ≤ 16384) ∧ (∀ y ∈ l, y ∈ q.foldl mark1 l) ∧ (q.foldl mark1 l).length ≤ l.length + 2 * q.length ∧
    ∀ s ∈ q, s.f0 ≤ s.f1 → (0 ≤ s.f0 → s.f0 ≤ 16384 → s.f0 ∈ q.foldl mark1 l) ∧ (0 ≤ s.f1 + 1 → s.f1 + 1 ≤ 16384 → s.f1 + 1 ∈ q.foldl mark1 l)
  | [], l, hu, hi => ⟨hu, hi, fun _ h => h, by simp, fun s h => by cases h⟩
  | x :: q, l, hu, hi => by
    obtain ⟨h1, h2, h3, h4, h5⟩ := marks_fold q (mark1 l x) (mark1_up x hu) (mark1_in x hi)
    rw [List.foldl_cons]
    have hl := mark1_len l x
    refine ⟨h1, h2, fun y hy => h3 y (mark1_old x hy), by rw [List.length_cons]; omega, fun s hs hle => ?_⟩
    rcases List.mem_cons.1 hs with rfl | hs
    · obtain ⟨a, b⟩ := mark1_new l s hle
      exact ⟨fun u v => h3 _ (a u v), fun u v => h3 _ (b u v)⟩
    · exact h5 s hs hle
theorem marks_spec (q : List S31) : upM (marksL q) ∧ (∀ y ∈ marksL q, 0 ≤ y ∧ y ≤ 16384) ∧ (0 : Int) ∈ marksL q ∧ (16384 : Int) ∈ marksL q ∧ (marksL q).length ≤ 2 + 2 * q.length ∧
    ∀ s ∈ q, s.f0 ≤ s.f1 → (0 ≤ s.f0 → s.f0 ≤ 16384 → s.f0 ∈ marksL q) ∧ (0 ≤ s.f1 + 1 → s.f1 + 1 ≤ 16384 → s.f1 + 1 ∈ marksL q) := by
  obtain ⟨h1, h2, h3, h4, h5⟩ := marks_fold q [0, 16384] ⟨by decide, trivial⟩ (fun y hy => by simp at hy; omega)
  exact ⟨h1, h2, h3 0 (by simp), h3 16384 (by simp), h4, h5⟩
/-- between two marks a list says one thing -/
theorem say_flat {a : List S31} {L : List Int} (hL : ∀ s ∈ a, s.f0 ≤ s.f1 → (0 ≤ s.f0 → s.f0 ≤ 16384 → s.f0 ∈ L) ∧ (0 ≤ s.f1 + 1 → s.f1 + 1 ≤ 16384 → s.f1 + 1 ∈ L)) {m n : Int} (h0 : 0 ≤ m) (h1 : m ≤ n) (h2 : n ≤ 16383)
    (hn : ∀ y ∈ L, ¬ (m < y ∧ y ≤ n)) : sayS a n = sayS a m := by
  have e : hasS a n = hasS a m := by
    rw [Bool.eq_iff_iff, hasS_iff, hasS_iff]
    constructor
    · rintro ⟨s, hs, a1, a2⟩
      refine ⟨s, hs, ?_, by omega⟩
      by_cases c : s.f0 ≤ m
      · exact c
      · exact absurd ⟨by omega, a1⟩ (hn _ ((hL s hs (by omega)).1 (by omega) (by omega)))
    · rintro ⟨s, hs, a1, a2⟩
      refine ⟨s, hs, by omega, ?_⟩
      by_cases c : n ≤ s.f1
      · exact c
      · exact absurd ⟨by omega, by omega⟩ (hn _ ((hL s hs (by omega)).2 (by omega) (by omega)))
  unfold sayS
  rw [e, decide_eq_true (show 0 ≤ n by omega), decide_eq_true h2, decide_eq_true h0, decide_eq_true (show m ≤ 16383 by omega)]
theorem rise_flat (p : Int → Bool) (L : List Int) (hL : ∀ y ∈ L, 0 ≤ y ∧ y ≤ 16384) (h4 : (16384 : Int) ∈ L) (hp : ∀ m n, 0 ≤ m → m ≤ n → n ≤ 16383 → (∀ y ∈ L, ¬ (m < y ∧ y ≤ n)) → p n = p m) :
    ∀ (r : List Int) (m : Int), upM (m :: r) → (∀ y ∈ m :: r, y ∈ L) → (∀ y ∈ L, y ≤ m ∨ y ∈ r) → riseM m r ∧ flatM p m r
  | [], m, _, h1, h2 => by
    have a := (hL m (h1 m (by simp))).2
    have b : (16384 : Int) ≤ m := (h2 _ h4).resolve_right (by simp)
    exact ⟨show m = 16384 by omega, trivial⟩
  | m' :: r, m, hu, h1, h2 => by
    have a := hL m (h1 m (by simp))
    have b := hL m' (h1 m' (by simp))
    obtain ⟨i1, i2⟩ := rise_flat p L hL h4 hp r m' (upM_tail hu) (fun y hy => h1 y (List.mem_cons_of_mem _ hy)) (fun y hy => by
      rcases h2 y hy with e | e
      · have := hu.1; exact .inl (by omega)
      · rcases List.mem_cons.1 e with rfl | e
        · exact .inl (Int.le_refl _)
        · exact .inr e)
    refine ⟨⟨hu.1, b.2, i1⟩, fun n k1 k2 => hp m n a.1 k1 (by omega) fun y hy ⟨c1, c2⟩ => ?_, i2⟩
    rcases h2 y hy with e | e
    · omega
    · rcases List.mem_cons.1 e with rfl | e
      · omega
      · have := upM_lt (upM_tail hu) y e; omega
/-- what is told of a slot: either, the first alone, both -/
def mixP (how : Int) (x y : Bool) : Bool := if how = 1 then x && !y else if how = 2 then x && y else x || y
def mixR (how : Int) (a b : List S31) : List S31 := mixL (fun n => mixP how (sayS a n) (sayS b n)) (marksL (a ++ b)) []
theorem mixR_spec (how : Int) (a b : List S31) : mayS (mixR how a b) ∧ ∀ n, hasS (mixR how a b) n = (decide (0 ≤ n) && decide (n < 16384) && mixP how (sayS a n) (sayS b n)) := by
  obtain ⟨h1, h2, h3, h4, _, h5⟩ := marks_spec (a ++ b)
  unfold mixR
  cases hm : marksL (a ++ b) with
  | nil => rw [hm] at h3; cases h3
  | cons m r =>
    rw [hm] at h1 h2 h3 h4 h5
    have hm0 : m = 0 := by
      have := (h2 m (by simp)).1
      rcases List.mem_cons.1 h3 with e | e
      · exact e.symm
      · have := upM_lt h1 0 e; omega
    subst hm0
    obtain ⟨g1, g2⟩ := rise_flat (fun n => mixP how (sayS a n) (sayS b n)) (0 :: r) h2 h4 (fun m n k0 k1 k2 k3 => by
      rw [say_flat (fun s hs => h5 s (List.mem_append_left _ hs)) k0 k1 k2 k3, say_flat (fun s hs => h5 s (List.mem_append_right _ hs)) k0 k1 k2 k3]) r 0 h1 (fun y hy => hy) (fun y hy => by
      rcases List.mem_cons.1 hy with rfl | e
      · exact .inl (Int.le_refl _)
      · exact .inr e)
    refine mix_spec _ r 0 [] (Int.le_refl _) g1 g2 trivial fun n => ?_
    rw [hasS_nil]
    by_cases c : 0 ≤ n
    · rw [decide_eq_false (show ¬ n < 0 by omega)]; simp
    · rw [decide_eq_false c]; simp
theorem mixR_say (how : Int) (a b : List S31) (n : Int) : sayS (mixR how a b) n = (decide (0 ≤ n) && decide (n ≤ 16383) && mixP how (sayS a n) (sayS b n)) := by
  rw [sayS_may (mixR_spec how a b).1, (mixR_spec how a b).2]
  congr 2
  exact decide_eq_decide.2 (by omega)
theorem sayS_app (a b : List S31) (n : Int) : sayS (a ++ b) n = (sayS a n || sayS b n) := by
  unfold sayS; rw [hasS_app]; cases decide (0 ≤ n) <;> cases decide (n ≤ 16383) <;> simp
theorem sayS_nil (n : Int) : sayS [] n = false := by unfold sayS; rw [hasS_nil, Bool.and_false]
/-- together -/
theorem mixR_or {how : Int} (h1 : how ≠ 1) (h2 : how ≠ 2) (a b : List S31) : mixR how a b = normS (a ++ b) := by
  refine norm_of (mixR_spec how a b).1 fun n => ?_
  rw [(mixR_spec how a b).2, sayS_app]
  unfold mixP
  rw [if_neg h1, if_neg h2]
  unfold sayS
  by_cases c : n < 16384
  · rw [decide_eq_true c, decide_eq_true (show n ≤ 16383 by omega)]
    cases decide (0 ≤ n) <;> simp
  · rw [decide_eq_false c, decide_eq_false (show ¬ n ≤ 16383 by omega)]
    cases decide (0 ≤ n) <;> simp
theorem mixR_norm (a : List S31) : mixR 0 a [] = normS a := by rw [mixR_or (by decide) (by decide), List.append_nil]
theorem mixL_len (p : Int → Bool) : ∀ (r out), (mixL p r out).length ≤ out.length + r.length
  | [], out => by unfold mixL; omega
  | [m], out => by unfold mixL; omega
  | m :: m' :: r, out => by
    rw [mixL]
    have ih := mixL_len p (m' :: r) (if p m = true then addM out m m' else out)
    have ha : (addM out m m').length ≤ out.length + 1 := by
      unfold addM
      rcases List.eq_nil_or_concat out with rfl | ⟨q, t, rfl⟩
      · simp
      · rw [List.concat_eq_append]; simp; split <;> simp
    split at ih
    · rw [if_pos ‹_›]; simp only [List.length_cons] at ih ⊢; omega
    · rw [if_neg ‹_›]; simp only [List.length_cons] at ih ⊢; omega
end Go.Proofs.YtnlakdpfkgjdaaaDoor.G

/- spans.Read in the print's words. Conditions: a bound on the text's length; strconv's variables are as they are laid. -/
namespace Go.Proofs.YtnlakdpfkgjdaaaDoor.G
open Go.RowKit Go.Cav Go.Proofs.YtnlakdpfkgjdaaaDoorW.PrintWords Go.Proofs.YtnlakdpfkgjdaaaDoorW.PrintLast Go.Proofs.YtnlakdpfkgjdaaaDoorW.PrintMore
def spans_Read.f (a0 : ByteArray) : Option ((List S31) × Bool) := if a0.size ≤ 1000000 then some (readP a0) else none
theorem spans_Read.calls (a0 : ByteArray) (r1 : List S31) (r2 : Bool) (w : World) (h : spans_Read.f a0 = some (r1, r2)) (hWd_ : Wd w) :
    Calls Tryd.prog 10 #[.string a0] w fun e w' => ∃ v0_ : Value, e = .returned (.tuple #[v0_, .bool r2]) ∧ Kd.R k31 31 w' w.heap.size (fun _ => True) v0_ r1 ∧ Below w.heap.size w w' := by
  unfold spans_Read.f at h
  split at h
  case isFalse => cases h
  case isTrue hb =>
    have h2 := Option.some.inj h
    have h3 := read_any a0 hb w hWd_
    rw [h2] at h3
    exact h3
end Go.Proofs.YtnlakdpfkgjdaaaDoor.G
