/- Texts of mine, packed in the order in which they build: GText, PNm, PMy, CavF, Re, GRead, G2, G1, G3, G4. Conditions: where a theorem asks for any, it names them. -/
import Derived.Test.YtnlakdpfkgjdaaaDoorRows
import Derived.Test.YtnlakdpfkgjdaaaDoorProg
import Derived.WalkKit
import Derived.WalkSpells
import Derived.WalkLawsBesides
import Derived.WalkSmall
import Derived.OwnWalkIn
import Derived.TacticsInMore
import Derived.Laws.AppendOwnNone
import Derived.Maps.AppendAt
import Derived.Deep.RegionLaw
import Derived.Lib.BufferRead
import Derived.KernelRfl
import Derived.Lib.Hide
import Derived.Lib.SplitLaws
import Derived.Shelf.Strings.OnBuilder
import Derived.Shelf.Small.Bits
import Derived.Shelf.Small.Wraps
import Derived.Shelf.LaysM
import Derived.Shelf.Strconv.Itoa3
import Derived.Shelf.LaysC
import Derived.Shelf.Strconv.AtoiAll
import Derived.Shelf.Strings.Search3
import Derived.Shelf.Strings.Cut
import Derived.Shelf.SlSortCmp.WholeK
import Derived.Shelf.Lays
import Derived.Shelf.SlLaysF0
import Derived.Test.YtnlakdpfkgjdaaaDoorWWords
import Derived.Test.YtnlakdpfkgjdaaaDoorWLast
import Derived.Test.YtnlakdpfkgjdaaaDoorWQPut
import Derived.Test.YtnlakdpfkgjdaaaDoorWApart
import Derived.Test.YtnlakdpfkgjdaaaDoorWArr
import Derived.Test.YtnlakdpfkgjdaaaDoorWZeros
import Derived.Test.YtnlakdpfkgjdaaaDoorWFoot
import Derived.Test.YtnlakdpfkgjdaaaDoorWKept
import Derived.Test.YtnlakdpfkgjdaaaDoorWShare
import Derived.Test.YtnlakdpfkgjdaaaDoorWN
import Derived.Test.YtnlakdpfkgjdaaaDoorWNEv
import Derived.Test.YtnlakdpfkgjdaaaDoorWMore
import Derived.IntWalk
import Derived.Lib.AppendIntMem
import Derived.Lib.ItoaLen
import Derived.Stop.LaidErr
import Derived.Lib.LaidTab
import Derived.LaidLaws
import Derived.Deep.DeepLaidRun
import Derived.ChangeSame
import Derived.ChangeVars
import Derived.JoinedOf
import Derived.RowKit
import Derived.RowKit3
import Derived.RowKitTokens
import Derived.HandedShaped
import Derived.Handed
import Derived.Shelf.Vars
import Derived.SevenTiedAt
import Derived.Below
import Derived.Deep.Draws
import Derived.Deep.AppendLies
import Derived.OwnWalk
import Derived.Laws.BytesArg
import Derived.Laws.MakeOwn
import Derived.Laws.OwnMore
import Derived.Deep.OwnRows
import Derived.Tactics
import Derived.Lib.ConvBytes
import Derived.Laws.Slices
import Derived.Deep.LoopGhost
import Derived.Deep.QuietTactic
import Derived.BigQuiet
import Derived.WideLaws
import Derived.Deep.DeepCutAuto
import Derived.Deep.CutBlock
import Derived.Deep.RegionHeld3
import Derived.Laws.Rows
import Derived.Lib.AppendStr
import Derived.ArgAppend
import Derived.Laws.IdiomCopy
import Derived.OrdersHeld
import Derived.Laws.BitsLemmas
import Derived.Test.YtnlakdpfkgjdaaaDoorWTab
import Derived.Test.YtnlakdpfkgjdaaaDoorWFour
import Derived.Test.YtnlakdpfkgjdaaaDoorWFootNe
import Derived.Test.YtnlakdpfkgjdaaaDoorWAt
import Derived.Test.YtnlakdpfkgjdaaaDoorWEqStruct
import Derived.Test.YtnlakdpfkgjdaaaDoorWRepsOne
import Derived.Test.YtnlakdpfkgjdaaaDoorWInv
import Derived.Test.YtnlakdpfkgjdaaaDoorWInvWords
import Derived.Test.YtnlakdpfkgjdaaaDoorWGuard
import Derived.RangeFuncNested
import Derived.RangeFuncBound
import Derived.RangeFuncCalls
import Derived.RangeFuncLeaves
import Derived.RangeFuncBox
import Derived.Shelf.Abstract
import Derived.Shelf.RegionOpen
import Derived.LoopNIn
import Derived.LoopIn
import Derived.Deep.RegionWith
import Derived.BigRegionIn
import Derived.RegionIn
import Derived.Sort.BigQuietIn
import Derived.Lib.IndexBytes
import Derived.Lib.IndexLaws
import Derived.Laws.Tables
import Derived.StillTail
import Derived.StillTactics
import Derived.OrdersIn
import Derived.TacticsIn
import Derived.Stop.RegionWithIn
import Derived.Sort.CutIn
import Derived.ProofKit
import Derived.OpenShut
import Derived.ShutString
import Derived.ChangeOld
import Derived.SizedLaws
import Derived.Test.YtnlakdpfkgjdaaaDoorWSized
import Derived.Test.YtnlakdpfkgjdaaaDoorKL1
/- The library's strings.Join and strconv.Itoa in the print's words. Conditions: bounds on lengths; a plain address; strconv's variables are as they are laid. -/
namespace Go.Proofs.YtnlakdpfkgjdaaaDoor.G
open Go.RowKit Go.Cav Go.Proofs.YtnlakdpfkgjdaaaDoorW.PrintWords Go.Proofs.YtnlakdpfkgjdaaaDoorW.PrintLast Go.Proofs.YtnlakdpfkgjdaaaDoorW.PrintMore
/-- texts side by side -/
def joinB (l : List ByteArray) (sep : ByteArray) : ByteArray := ⟨(Lib.join (l.map (·.data.toList)) sep.data.toList).toArray⟩
theorem plain_R {α : Type} {d : Kd α} {e base n c : Nat} {ok : Nat → Prop} {w : World} {A : Option Addr} {xs : List α} (h : d.R e w base ok (.slice A n c) xs) : ∀ ad, A = some ad → ∃ g, ad = ⟨g, 0, none⟩ ∧ g < w.heap.size := by
  obtain ⟨_, inner, ho, _⟩ := h
  rcases ho.2 with ⟨e1, _⟩ | ⟨g, cap, cur, e1, hb, hg, _⟩
  · cases e1; intro ad h; cases h
  · cases e1; intro ad h; cases h; exact ⟨g, rfl, (Array.getElem?_eq_some_iff.1 hg).1⟩
def strings_Join.f (l0 : List ByteArray) (a1 : ByteArray) : Option ByteArray := if l0.length ≤ 1000000000 ∧ (Lib.join (l0.map (·.data.toList)) a1.data.toList).length ≤ 140737488355328 then some (joinB l0 a1) else none
theorem strings_Join.calls (A0 : Option Addr) (c0 : Nat) (l0 : List ByteArray) (a1 : ByteArray) (r : ByteArray) (w : World) (hr0 : Kd.C Kd.string w A0 l0.length l0) (hc0 : l0.length ≤ c0) (h : strings_Join.f l0 a1 = some r) (hP : ∀ ad, A0 = some ad → ∃ g, ad = ⟨g, 0, none⟩ ∧ g < w.heap.size) :
    Calls Tryd.prog 36 #[.slice A0 l0.length c0, .string a1] w fun e w' => e = .returned (.string r) ∧ Below w.heap.size w w' := by
  unfold strings_Join.f at h
  split at h
  case isFalse => cases h
  case isTrue hb =>
    obtain rfl := Option.some.inj h
    rcases Nat.eq_zero_or_pos l0.length with h0 | h0
    · obtain rfl : l0 = [] := List.eq_nil_of_length_eq_zero h0
      refine (Tryd.strings_Join_none A0 c0 a1 w).mono ?_
      rintro e w' ⟨rfl, rfl⟩
      exact ⟨rfl, Below.refl _ _⟩
    · obtain ⟨ad, rfl, hc⟩ := hr0.2.2 h0
      obtain ⟨g, rfl, hg⟩ := hP ad rfl
      refine (Tryd.strings_Join g 0 c0 l0 a1 w (fun j x hj => ?_) hg (by omega) hc0 hb.2).mono fun e w' h => h
      obtain ⟨cs, h1, h2, h3⟩ := hc j x hj
      obtain rfl : cs = [.string x] := h2
      have h4 := h3 0 _ rfl
      have ha : (⟨g, 0, none⟩ : Addr).add (j * (Kd.string).sz + 0) = ⟨g, 0 + j, none⟩ := by
        show (⟨g, 0, none⟩ : Addr).add (j * 1 + 0) = _
        rw [Nat.mul_one, Nat.add_zero]
        unfold Addr.add
        split
        · rename_i h; rw [h]
        · rfl
      rw [ha] at h4
      exact h4
def strconv_Itoa.f (a0 : Int) : Option ByteArray := if -9223372036854775808 ≤ a0 ∧ a0 ≤ 9223372036854775807 then some (itoaB a0) else none
theorem strconv_Itoa.calls (a0 : Int) (r : ByteArray) (w : World) (h : strconv_Itoa.f a0 = some r) (hWd_ : Wd w) :
    Calls Tryd.prog 35 #[.int .i64 a0] w fun e w' => e = .returned (.string r) ∧ Below w.heap.size w w' := by
  unfold strconv_Itoa.f at h
  split at h
  case isFalse => cases h
  case isTrue hb =>
    obtain rfl := Option.some.inj h
    exact itoa_any a0 hb.1 hb.2 w hWd_
end Go.Proofs.YtnlakdpfkgjdaaaDoor.G

/- What caravan/spans.Text comes to, and its calls; by a program of mine over the kit's print. Conditions: where the plain function tells none, nothing is said. -/
namespace Go.Proofs.YtnlakdpfkgjdaaaDoor.G
open Go.RowKit Go.Proofs.YtnlakdpfkgjdaaaDoorW.PrintWords Go.Proofs.YtnlakdpfkgjdaaaDoorW.PrintLast Go.Proofs.YtnlakdpfkgjdaaaDoorW.PrintMore
attribute [local go_sem] max2_int min2_int max_two min_two max_three min_three max_four min_four   -- for this text's walks alone
set_option linter.unusedVariables false
set_option linter.unusedSimpArgs false

/-! ### spans_Text: function 22 -/
def spans_Text.l0 : Nat → List ByteArray → List (S31) → Int → Int → Option (ByteArray)
 | 0, _, _, _, _ => none
 | k + 1, x3, x8, x9, x10 => if x10 < x9 then (if 0 ≤ x10 then (if x10 < (x8.length : Int) then ((strconv_Itoa.f ((rd_T31 x8 x10).f0)).bind fun t107 => (if ((rd_T31 x8 x10).f1) > ((rd_T31 x8 x10).f0) then ((strconv_Itoa.f ((rd_T31 x8 x10).f1)).bind fun t108 => (if 1 + t108.size ≤ 9223372036854775807 then (if t107.size + ((⟨#[45]⟩ : ByteArray) ++ t108).size ≤ 9223372036854775807 then (if x3.length < 8796093022208 then (spans_Text.l0 k (x3 ++ [t107 ++ ((⟨#[45]⟩ : ByteArray) ++ t108)]) x8 x9 (wrap64 (x10 + 1))) else (none)) else (none)) else (none))) else (if x3.length < 8796093022208 then (spans_Text.l0 k (x3 ++ [t107]) x8 x9 (wrap64 (x10 + 1))) else (none)))) else (none)) else (none)) else ((strings_Join.f x3 (⟨#[44]⟩ : ByteArray)).bind fun t104 => (some t104))
def spans_Text.f (k : Nat) (l0 : List (S31)) : Option (ByteArray) := (spans_Norm.f k l0).bind fun t101 => (spans_Text.l0 k ([] : List ByteArray) t101 (t101.length : Int) 0)
theorem spans_Text.mono_l : ∀ k, (∀ y0 y1 y2 y3, LeO (spans_Text.l0 k y0 y1 y2 y3) (spans_Text.l0 (k + 1) y0 y1 y2 y3))
 | 0 => fun _ _ _ _ r h => by simp [spans_Text.l0] at h
 | k + 1 => by
  have ih0 := spans_Text.mono_l k
  ·intro y0 y1 y2 y3
   unfold spans_Text.l0
   repeat' first
   | (with_reducible exact ih0 _ _ _ _)
   | (with_reducible exact spans_Norm.mono _ _)
   | (with_reducible exact LeO.refl _)
   | (with_reducible exact LeO.none _)
   | (with_reducible refine LeO.ite ?_ ?_)
   | (with_reducible refine LeO.bind ?_ (fun _ => ?_))
   | exact ih0 _ _ _ _
   | exact spans_Norm.mono _ _
   | exact LeO.none _
   | refine LeO.ite ?_ ?_
   | refine LeO.bind ?_ (fun _ => ?_)
theorem spans_Text.mono : ∀ a0 k, LeO (spans_Text.f k a0) (spans_Text.f (k + 1) a0) := by
 intro a0 k
 have ih0 := spans_Text.mono_l k
 unfold spans_Text.f
 repeat' first
  | (with_reducible exact ih0 _ _ _ _)
  | (with_reducible exact spans_Norm.mono _ _)
  | (with_reducible exact LeO.refl _)
  | (with_reducible exact LeO.none _)
  | (with_reducible refine LeO.ite ?_ ?_)
  | (with_reducible refine LeO.bind ?_ (fun _ => ?_))
  | exact ih0 _ _ _ _
  | exact spans_Norm.mono _ _
  | exact LeO.none _
  | refine LeO.ite ?_ ?_
  | refine LeO.bind ?_ (fun _ => ?_)
set_option maxHeartbeats 8000000 in
set_option maxRecDepth 100000 in
theorem spans_Text.calls (k : Nat) (A0 : Option Addr) (c0 : Nat) (l0 : List (S31)) (r : ByteArray) (w : World) (hr0 : Kd.C k31 w A0 l0.length l0) (hc0 : l0.length ≤ c0) (h : spans_Text.f k l0 = some r) (hWd_ : Wd w) :
 Calls Tryd.prog 22 #[.slice A0 l0.length c0] w fun e w' => e = .returned (.string r) ∧ Below w.heap.size w w' := by
 have hu31 := Tryd.underlying31
 have HR0 := Aside0.mk hr0
 have HC0 := Aside0.mk hc0
 clear hr0 hc0
 have HB := Aside0.mk (Below.refl w.heap.size w)
 have H : ((spans_Norm.f k l0).bind fun t101 => (spans_Text.l0 k ([] : List ByteArray) t101 (t101.length : Int) 0)) = some r := h
 clear h
 replace H := Option.bind_eq_some_iff.mp H
 obtain ⟨t101, A20, H⟩ := H
 replace H : (spans_Text.l0 k ([] : List ByteArray) t101 (t101.length : Int) 0) = some r := H
 have A2 := Aside0.mk A20
 clear A20
 have H' := Aside0.mk H
 clear H
 go_enter Tryd.func22, Tryd.ntmps22
 go_wp2_with (first | ((with_reducible refine gate_callee (f := 16) rfl ?_); refine goesL_ (some 8) rfl rfl Tryd.func16 (by kernel_rfl) rfl #[.slice A0 l0.length c0] rfl (by (try simp only [List.map_toArray, List.map_cons, List.map_nil]); first | done | rfl | (simp only [List.length_drop, List.length_take]; rfl)) ?_; (with_reducible refine (spans_Norm.calls k _ _ l0 t101 _ ?side1 ?side2 A2.out).mono ?_); (case side1 => repeat (first | exact HR0.out | (with_reducible refine Kd.C_alloc ?_ _) | (with_reducible refine Kd.C_drewN ?_ _) | (with_reducible refine Kd.C_drew ?_))); (case side2 => exact HC0.out); rintro e w3 ⟨v102, rfl, ho0, hb⟩; refine ⟨_, rfl, ?_⟩; have n0_ := Aside0.mk (Kd.R_lower ho0 (below_size (by repeat (first | (with_reducible first | exact HB.out | apply below_alloc | apply pw_below_drewN | apply below_drew1) | exact HB.out)))); have n1_ := Aside0.mk (below_step (by repeat (first | (with_reducible first | exact HB.out | apply below_alloc | apply pw_below_drewN | apply below_drew1) | exact HB.out)) hb); clear HB; have HO103 := n0_; have HB := n1_; clear n0_ n1_; (try clear hb); (try clear hb2); (try clear hk); (try clear hi); (try clear ho0); obtain ⟨Ao4, co4, eo4⟩ := Kd.R_slice HO103.out; subst eo4))
 go_loopg [3, 10] k (fun kq v3 v10 w' => ∃ (x3_1 : List ByteArray) (x10_1 : Int), v10 = .int .i64 x10_1 ∧ Aside0 (spans_Text.l0 kq x3_1 t101 (t101.length : Int) x10_1 = some r) ∧ Aside0 (kq ≤ k) ∧ Aside0 (Kd.R Kd.string 9 w' w.heap.size (fun _ => True) v3 x3_1) ∧ Aside0 (Kd.R k31 31 w' w.heap.size (fun _ => True) (.slice Ao4 t101.length co4) t101) ∧ Aside0 (Below w.heap.size w w'))
 case atStart => exact ⟨(([] : List ByteArray)), (0), (by first | rfl | (simp; done) | (simp [*]; done)), H', ⟨Nat.le_refl _⟩, ⟨by first | exact Kd.R_nil _ _ _ _ _ | exact Kd.N_nil _ _ _ _ _ | exact Kd.V_nil _ _ _ _ _ | exact Kd.Q_nil _ _ _ _ _ | exact Kd.S_nil _ _ _ _ _⟩, ⟨by (with_reducible repeat (first | apply Kd.R_alloc | apply Kd.R_drewN | apply Kd.R_drew)); exact HO103.out⟩, ⟨by repeat (first | (with_reducible first | exact HB.out | apply below_alloc | apply pw_below_drewN | apply below_drew1) | exact HB.out)⟩⟩
 case round =>
  clear H'
  try clear c1
  try clear c2
  try clear p2
  obtain ⟨x3_1, x10_1, rfl, HA, HK1, HO_3, HO_8, HB⟩ := hrel
  cases gk with
  | zero => exact absurd HA.out (by simp [spans_Text.l0])
  | succ k1 =>
   have H := HA.out
   clear HA
   simp only [spans_Text.l0] at H
   by_cases c5 : x10_1 < (t101.length : Int)
   ·rw [if_pos c5] at H
    have c5b0 : decide (x10_1 < (t101.length : Int)) = true := decide_eq_true c5
    clear c5
    by_cases c6 : 0 ≤ x10_1
    ·rw [if_pos c6] at H
     have c6b0 : decide (0 ≤ x10_1) = true := decide_eq_true c6
     clear c6
     by_cases c7 : x10_1 < (t101.length : Int)
     ·rw [if_pos c7] at H
      have c7b0 : decide (x10_1 < (t101.length : Int)) = true := decide_eq_true c7
      clear c7
      replace H := Option.bind_eq_some_iff.mp H
      obtain ⟨t107, A80, H⟩ := H
      replace H : (if ((rd_T31 t101 x10_1).f1) > ((rd_T31 t101 x10_1).f0) then ((strconv_Itoa.f ((rd_T31 t101 x10_1).f1)).bind fun t108 => (if 1 + t108.size ≤ 9223372036854775807 then (if t107.size + ((⟨#[45]⟩ : ByteArray) ++ t108).size ≤ 9223372036854775807 then (if x3_1.length < 8796093022208 then (spans_Text.l0 k1 (x3_1 ++ [t107 ++ ((⟨#[45]⟩ : ByteArray) ++ t108)]) t101 (t101.length : Int) (wrap64 (x10_1 + 1))) else (none)) else (none)) else (none))) else (if x3_1.length < 8796093022208 then (spans_Text.l0 k1 (x3_1 ++ [t107]) t101 (t101.length : Int) (wrap64 (x10_1 + 1))) else (none))) = some r := H
      have A8 := Aside0.mk A80
      clear A80
      by_cases c9 : ((rd_T31 t101 x10_1).f1) > ((rd_T31 t101 x10_1).f0)
      ·rw [if_pos c9] at H
       have c9b0 : decide (((rd_T31 t101 x10_1).f0) < ((rd_T31 t101 x10_1).f1)) = true := decide_eq_true c9
       clear c9
       replace H := Option.bind_eq_some_iff.mp H
       obtain ⟨t108, A100, H⟩ := H
       replace H : (if 1 + t108.size ≤ 9223372036854775807 then (if t107.size + ((⟨#[45]⟩ : ByteArray) ++ t108).size ≤ 9223372036854775807 then (if x3_1.length < 8796093022208 then (spans_Text.l0 k1 (x3_1 ++ [t107 ++ ((⟨#[45]⟩ : ByteArray) ++ t108)]) t101 (t101.length : Int) (wrap64 (x10_1 + 1))) else (none)) else (none)) else (none)) = some r := H
       have A10 := Aside0.mk A100
       clear A100
       by_cases c11 : 1 + t108.size ≤ 9223372036854775807
       ·rw [if_pos c11] at H
        have c11b0 := eq_true c11
        have c11b1 : decide (1 + t108.size ≤ 9223372036854775807) = true := decide_eq_true c11
        try have c11b2 : (9223372036854775807 < 1 + t108.size) = False := eq_false (Nat.not_lt.2 c11)
        by_cases c12 : t107.size + ((⟨#[45]⟩ : ByteArray) ++ t108).size ≤ 9223372036854775807
        ·rw [if_pos c12] at H
         have c12b0 := eq_true c12
         have c12b1 : decide (t107.size + ((⟨#[45]⟩ : ByteArray) ++ t108).size ≤ 9223372036854775807) = true := decide_eq_true c12
         try have c12b2 : (9223372036854775807 < t107.size + ((⟨#[45]⟩ : ByteArray) ++ t108).size) = False := eq_false (Nat.not_lt.2 c12)
         try (have c12b3 := c12b2; simp only [ByteArray.size_append] at c12b3)
         try (have c12b4 := c12b3; simp only [show (⟨#[45]⟩ : ByteArray).size = 1 from rfl] at c12b4)
         by_cases c13 : x3_1.length < 8796093022208
         ·rw [if_pos c13] at H
          have LMc13 := Aside0.mk c13
          clear c13
          obtain ⟨y109, hy109⟩ : ∃ y_ : List ByteArray, y_ = (x3_1 ++ [t107 ++ ((⟨#[45]⟩ : ByteArray) ++ t108)]) := ⟨_, rfl⟩
          replace H : (spans_Text.l0 k1 y109 t101 (t101.length : Int) (wrap64 (x10_1 + 1))) = some r := by first | (rw [hy109]; with_reducible exact H) | (have H2_ := (Option.bind_some _ _).symm.trans H; rw [hy109]; with_reducible exact H2_) | (have H2_ := (Option.bind_some _ _).symm.trans H; with_reducible exact H2_) | with_reducible exact H | (rw [hy109]; exact H) | exact H
          have Ny109 := Aside0.mk hy109
          clear hy109
          have H' := Aside0.mk H
          clear H
          have p105 : 0 ≤ (x10_1 : Int) := of_decide_eq_true (by first | (with_reducible assumption) | assumption)
          have q105 : x10_1 < (t101.length : Int) := of_decide_eq_true (by first | (with_reducible assumption) | assumption)
          obtain ⟨ad105, e105, hx105_0, hx105_1⟩ := at_T31 (Kd.R_reads' HO_8.out).2.2 x10_1 p105 q105
          cases e105
          replace p105 := eq_true p105
          replace q105 := eq_true q105
          go_wp2_with (first | ((with_reducible refine gate_dst (N := 5) rfl ?_); refine box_event ?hg (N := 5) ?hd (cs := #[.int .i64 0, .int .i64 0]) (t := 31) ?hr ?_; (case hd => rfl); (case hg => rfl); (case hr => first | (go_simp; done) | (go_simp; rfl)); intro gb106 hg w14 hbox hb; have n0_ := Aside0.mk (Kd.R_below (by (with_reducible repeat (first | apply Kd.R_alloc | apply Kd.R_drewN | apply Kd.R_drew)); exact HO_3.out) hb); have n1_ := Aside0.mk (Kd.R_below (Kd.R_elderB (by (with_reducible repeat (first | apply Kd.R_alloc | apply Kd.R_drewN | apply Kd.R_drew)); exact HO_8.out) gb106 (Nat.le_of_eq hg.symm)) hb); have n2_ := Aside0.mk (below_step (by repeat (first | (with_reducible first | exact HB.out | apply below_alloc | apply pw_below_drewN | apply below_drew1) | exact HB.out)) hb); have n3_ := Aside0.mk (hbox); have n4_ := Aside0.mk ((by rw [hg]; exact (below_size (by repeat (first | (with_reducible first | exact HB.out | apply below_alloc | apply pw_below_drewN | apply below_drew1) | exact HB.out))) : w.heap.size ≤ gb106)); have n5_ := Aside0.mk ((by rw [hg]; exact (below_size (by repeat (first | (with_reducible first | exact HB.out | apply below_alloc | apply pw_below_drewN | apply below_drew1) | exact HB.out))) : w.heap.size ≤ gb106)); clear HO_3; clear HO_8; clear HB; have HO_3 := n0_; have HO_8 := n1_; have HB := n2_; have BK106 := n3_; have GW106 := n4_; have GE106 := n5_; clear n0_ n1_ n2_ n3_ n4_ n5_; clear hb hbox hg; have hcz15_0 : w14.cell? ⟨gb106, 0, none⟩ = some (.int .i64 0) := (blk_cell BK106.out 0).trans rfl; have hcz15_1 : w14.cell? ⟨gb106, 1, none⟩ = some (.int .i64 0) := (blk_cell BK106.out 1).trans rfl; have hfz15_0 := blk_frozen BK106.out 0; have hfz15_1 := blk_frozen BK106.out 1) | ((with_reducible refine gate_callee (f := 35) rfl ?_); refine goesL_ (some 16) rfl rfl Tryd.func35 (by kernel_rfl) rfl #[.int .i64 ((rd_T31 t101 x10_1).f0)] rfl (by (try simp only [List.map_toArray, List.map_cons, List.map_nil]); first | done | rfl | (simp only [List.length_drop, List.length_take]; rfl)) ?_; (with_reducible refine (strconv_Itoa.calls ((rd_T31 t101 x10_1).f0) t107 _ A8.out (Wd.of hWd_ (by repeat (first | (with_reducible first | exact HB.out | apply below_alloc | apply pw_below_drewN | apply below_drew1 | refine below_set ?_ GE106.out) | exact HB.out)))).mono ?_); rintro e w16 ⟨rfl, hb⟩; refine ⟨_, rfl, ?_⟩; have n0_ := Aside0.mk (Kd.R_below (by (with_reducible repeat (first | apply Kd.R_alloc | apply Kd.R_drewN | apply Kd.R_drew)); exact (Kd.R_mono (Kd.R_far (p := ⟨gb106, 1, none⟩) (Kd.R_far (p := ⟨gb106, 0, none⟩) (Kd.R_types HO_3.out BK106.out (by decide)) (fun _ hk => hk.2) (.int .i64 ((rd_T31 t101 x10_1).f0))) (fun _ hk => hk.2) (.int .i64 ((rd_T31 t101 x10_1).f1))) (fun _ h_ => h_.1))) hb); have n1_ := Aside0.mk (Kd.R_below (by (with_reducible repeat (first | apply Kd.R_alloc | apply Kd.R_drewN | apply Kd.R_drew)); exact (Kd.R_mono (Kd.R_far (p := ⟨gb106, 1, none⟩) (Kd.R_far (p := ⟨gb106, 0, none⟩) (Kd.R_mono HO_8.out (fun k_ hk => (⟨hk, hk.2⟩ : _ ∧ k_ ≠ gb106))) (fun _ hk => hk.2) (.int .i64 ((rd_T31 t101 x10_1).f0))) (fun _ hk => hk.2) (.int .i64 ((rd_T31 t101 x10_1).f1))) (fun _ h_ => h_.1))) hb); have n2_ := Aside0.mk (blk_below (g := gb106) (o := .cells #[.int .i64 ((rd_T31 t101 x10_1).f0), .int .i64 ((rd_T31 t101 x10_1).f1)] 31 (0, 0)) (by (with_reducible repeat (first | refine blk_drewN ?_ _ | refine blk_drew ?_ | refine blk_alloc ?_ _)); refine blk_put (cs := #[.int .i64 ((rd_T31 t101 x10_1).f0), .int .i64 0]) ?_ 1 _ rfl; (with_reducible repeat (first | refine blk_drewN ?_ _ | refine blk_drew ?_ | refine blk_alloc ?_ _)); refine blk_put (cs := #[.int .i64 0, .int .i64 0]) ?_ 0 _ rfl; (with_reducible repeat (first | refine blk_drewN ?_ _ | refine blk_drew ?_ | refine blk_alloc ?_ _)); exact BK106.out) hb); have n3_ := Aside0.mk (below_step (by repeat (first | (with_reducible first | exact HB.out | apply below_alloc | apply pw_below_drewN | apply below_drew1 | refine below_set ?_ GE106.out) | exact HB.out)) hb); clear HO_3; clear HO_8; clear BK106; clear HB; have HO_3 := n0_; have HO_8 := n1_; have BK106 := n2_; have HB := n3_; clear n0_ n1_ n2_ n3_; (try clear hb); (try clear hb2); (try clear hk); (try clear hi); have hcz17_0 : w16.cell? ⟨gb106, 0, none⟩ = some (.int .i64 ((rd_T31 t101 x10_1).f0)) := (blk_cell BK106.out 0).trans rfl; have hcz17_1 : w16.cell? ⟨gb106, 1, none⟩ = some (.int .i64 ((rd_T31 t101 x10_1).f1)) := (blk_cell BK106.out 1).trans rfl; have hfz17_0 := blk_frozen BK106.out 0; have hfz17_1 := blk_frozen BK106.out 1) | ((with_reducible refine gate_callee (f := 35) rfl ?_); refine goesL_ (some 25) rfl rfl Tryd.func35 (by kernel_rfl) rfl #[.int .i64 ((rd_T31 t101 x10_1).f1)] rfl (by (try simp only [List.map_toArray, List.map_cons, List.map_nil]); first | done | rfl | (simp only [List.length_drop, List.length_take]; rfl)) ?_; (with_reducible refine (strconv_Itoa.calls ((rd_T31 t101 x10_1).f1) t108 _ A10.out (Wd.of hWd_ (by repeat (first | (with_reducible first | exact HB.out | apply below_alloc | apply pw_below_drewN | apply below_drew1 | refine below_set ?_ GE106.out) | exact HB.out)))).mono ?_); rintro e w18 ⟨rfl, hb⟩; refine ⟨_, rfl, ?_⟩; have n0_ := Aside0.mk (Kd.R_below (by (with_reducible repeat (first | apply Kd.R_alloc | apply Kd.R_drewN | apply Kd.R_drew)); exact HO_3.out) hb); have n1_ := Aside0.mk (Kd.R_below (by (with_reducible repeat (first | apply Kd.R_alloc | apply Kd.R_drewN | apply Kd.R_drew)); exact HO_8.out) hb); have n2_ := Aside0.mk (blk_below (g := gb106) (o := .cells #[.int .i64 ((rd_T31 t101 x10_1).f0), .int .i64 ((rd_T31 t101 x10_1).f1)] 31 (0, 0)) (by (with_reducible repeat (first | refine blk_drewN ?_ _ | refine blk_drew ?_ | refine blk_alloc ?_ _)); exact BK106.out) hb); have n3_ := Aside0.mk (below_step (by repeat (first | (with_reducible first | exact HB.out | apply below_alloc | apply pw_below_drewN | apply below_drew1 | refine below_set ?_ GE106.out) | exact HB.out)) hb); clear HO_3; clear HO_8; clear BK106; clear HB; have HO_3 := n0_; have HO_8 := n1_; have BK106 := n2_; have HB := n3_; clear n0_ n1_ n2_ n3_; (try clear hb); (try clear hb2); (try clear hk); (try clear hi)) | ((with_reducible refine gate_builtin (b := .append) (xs := #[.tmp 28, .tmp 30]) rfl ?_); at_builtin; refine Kd.R_append Kd.string (w0 := w) w.heap.size rfl (.tmp 28) (.tmp 30) 32 9 (.string ⟨#[]⟩) 16 rfl Tryd.underlying32 info9 rfl (by decide) (by omega) u3 x3_1 (t107 ++ ((⟨#[45]⟩ : ByteArray) ++ t108)) [.string (t107 ++ ((⟨#[45]⟩ : ByteArray) ++ t108))] (fun _ => True) (fun _ => False) rfl rfl ?aP (fun _ hk => hk.elim) ?aF ?aO ?aB ?aS ?aL ?_; (case aP => exact rfl); (case aB => exact (by repeat (first | (with_reducible first | exact HB.out | apply below_alloc | apply pw_below_drewN | apply below_drew1 | refine below_set ?_ GE106.out) | exact HB.out))); (case aF => exact (fun _ _ => trivial)); (case aO => exact (by (with_reducible repeat (first | apply Kd.R_alloc | apply Kd.R_drewN | apply Kd.R_drew)); exact HO_3.out)); (case aS => exact (below_size (by repeat (first | (with_reducible first | exact HB.out | apply below_alloc | apply pw_below_drewN | apply below_drew1 | refine below_set ?_ GE106.out) | exact HB.out)))); (case aL => have := LMc13.out; omega); intro v110 w19 ho hb hg hat; rw [← Ny109.out] at ho; have n0_ := Aside0.mk (Kd.R_over' (by (with_reducible repeat (first | apply Kd.R_alloc | apply Kd.R_drewN | apply Kd.R_drew)); exact HO_8.out) (Kd.R_typed (by (with_reducible repeat (first | apply Kd.R_alloc | apply Kd.R_drewN | apply Kd.R_drew)); exact HO_3.out)) (by decide) hg); have n1_ := Aside0.mk (blk_grown (g := gb106) (o := .cells #[.int .i64 ((rd_T31 t101 x10_1).f0), .int .i64 ((rd_T31 t101 x10_1).f1)] 31 (0, 0)) (by (with_reducible repeat (first | refine blk_drewN ?_ _ | refine blk_drew ?_ | refine blk_alloc ?_ _)); exact BK106.out) hg (Kd.R_ne HO_3.out BK106.out (by decide))); have n2_ := Aside0.mk (hb); have n3_ := Aside0.mk (ho); clear HO_8; clear BK106; clear HB; clear HO_3; have HO_8 := n0_; have BK106 := n1_; have HB := n2_; have HO111 := n3_; clear n0_ n1_ n2_ n3_; clear ho hb hg hat))
          go_roundg k1
          case measure => have := HK1.out; omega
          case rel => exact ⟨(y109), (wrap64 (x10_1 + 1)), (by first | rfl | (simp; done) | (simp [*]; done)), H', ⟨by have := HK1.out; omega⟩, ⟨by (with_reducible repeat (first | apply Kd.R_alloc | apply Kd.R_drewN | apply Kd.R_drew)); exact HO111.out⟩, ⟨by (with_reducible repeat (first | apply Kd.R_alloc | apply Kd.R_drewN | apply Kd.R_drew)); exact Kd.R_mono HO_8.out (fun _ hk => trivial)⟩, ⟨by repeat (first | (with_reducible first | exact HB.out | apply below_alloc | apply pw_below_drewN | apply below_drew1 | refine below_set ?_ GE106.out) | exact HB.out)⟩⟩
         ·rw [if_neg c13] at H
          exact absurd H (by simp)
        ·rw [if_neg c12] at H
         exact absurd H (by simp)
       ·rw [if_neg c11] at H
        exact absurd H (by simp)
      ·rw [if_neg c9] at H
       have c9b0 : decide (((rd_T31 t101 x10_1).f0) < ((rd_T31 t101 x10_1).f1)) = false := decide_eq_false c9
       clear c9
       by_cases c20 : x3_1.length < 8796093022208
       ·rw [if_pos c20] at H
        have LMc20 := Aside0.mk c20
        clear c20
        obtain ⟨y112, hy112⟩ : ∃ y_ : List ByteArray, y_ = (x3_1 ++ [t107]) := ⟨_, rfl⟩
        replace H : (spans_Text.l0 k1 y112 t101 (t101.length : Int) (wrap64 (x10_1 + 1))) = some r := by first | (rw [hy112]; with_reducible exact H) | (have H2_ := (Option.bind_some _ _).symm.trans H; rw [hy112]; with_reducible exact H2_) | (have H2_ := (Option.bind_some _ _).symm.trans H; with_reducible exact H2_) | with_reducible exact H | (rw [hy112]; exact H) | exact H
        have Ny112 := Aside0.mk hy112
        clear hy112
        have H' := Aside0.mk H
        clear H
        have p105 : 0 ≤ (x10_1 : Int) := of_decide_eq_true (by first | (with_reducible assumption) | assumption)
        have q105 : x10_1 < (t101.length : Int) := of_decide_eq_true (by first | (with_reducible assumption) | assumption)
        obtain ⟨ad105, e105, hx105_0, hx105_1⟩ := at_T31 (Kd.R_reads' HO_8.out).2.2 x10_1 p105 q105
        cases e105
        replace p105 := eq_true p105
        replace q105 := eq_true q105
        go_wp2_with (first | ((with_reducible refine gate_dst (N := 5) rfl ?_); refine box_event ?hg (N := 5) ?hd (cs := #[.int .i64 0, .int .i64 0]) (t := 31) ?hr ?_; (case hd => rfl); (case hg => rfl); (case hr => first | (go_simp; done) | (go_simp; rfl)); intro gb106 hg w21 hbox hb; have n0_ := Aside0.mk (Kd.R_below (by (with_reducible repeat (first | apply Kd.R_alloc | apply Kd.R_drewN | apply Kd.R_drew)); exact HO_3.out) hb); have n1_ := Aside0.mk (Kd.R_below (Kd.R_elderB (by (with_reducible repeat (first | apply Kd.R_alloc | apply Kd.R_drewN | apply Kd.R_drew)); exact HO_8.out) gb106 (Nat.le_of_eq hg.symm)) hb); have n2_ := Aside0.mk (below_step (by repeat (first | (with_reducible first | exact HB.out | apply below_alloc | apply pw_below_drewN | apply below_drew1) | exact HB.out)) hb); have n3_ := Aside0.mk (hbox); have n4_ := Aside0.mk ((by rw [hg]; exact (below_size (by repeat (first | (with_reducible first | exact HB.out | apply below_alloc | apply pw_below_drewN | apply below_drew1) | exact HB.out))) : w.heap.size ≤ gb106)); have n5_ := Aside0.mk ((by rw [hg]; exact (below_size (by repeat (first | (with_reducible first | exact HB.out | apply below_alloc | apply pw_below_drewN | apply below_drew1) | exact HB.out))) : w.heap.size ≤ gb106)); clear HO_3; clear HO_8; clear HB; have HO_3 := n0_; have HO_8 := n1_; have HB := n2_; have BK106 := n3_; have GW106 := n4_; have GE106 := n5_; clear n0_ n1_ n2_ n3_ n4_ n5_; clear hb hbox hg; have hcz22_0 : w21.cell? ⟨gb106, 0, none⟩ = some (.int .i64 0) := (blk_cell BK106.out 0).trans rfl; have hcz22_1 : w21.cell? ⟨gb106, 1, none⟩ = some (.int .i64 0) := (blk_cell BK106.out 1).trans rfl; have hfz22_0 := blk_frozen BK106.out 0; have hfz22_1 := blk_frozen BK106.out 1) | ((with_reducible refine gate_callee (f := 35) rfl ?_); refine goesL_ (some 16) rfl rfl Tryd.func35 (by kernel_rfl) rfl #[.int .i64 ((rd_T31 t101 x10_1).f0)] rfl (by (try simp only [List.map_toArray, List.map_cons, List.map_nil]); first | done | rfl | (simp only [List.length_drop, List.length_take]; rfl)) ?_; (with_reducible refine (strconv_Itoa.calls ((rd_T31 t101 x10_1).f0) t107 _ A8.out (Wd.of hWd_ (by repeat (first | (with_reducible first | exact HB.out | apply below_alloc | apply pw_below_drewN | apply below_drew1 | refine below_set ?_ GE106.out) | exact HB.out)))).mono ?_); rintro e w23 ⟨rfl, hb⟩; refine ⟨_, rfl, ?_⟩; have n0_ := Aside0.mk (Kd.R_below (by (with_reducible repeat (first | apply Kd.R_alloc | apply Kd.R_drewN | apply Kd.R_drew)); exact (Kd.R_mono (Kd.R_far (p := ⟨gb106, 1, none⟩) (Kd.R_far (p := ⟨gb106, 0, none⟩) (Kd.R_types HO_3.out BK106.out (by decide)) (fun _ hk => hk.2) (.int .i64 ((rd_T31 t101 x10_1).f0))) (fun _ hk => hk.2) (.int .i64 ((rd_T31 t101 x10_1).f1))) (fun _ h_ => h_.1))) hb); have n1_ := Aside0.mk (Kd.R_below (by (with_reducible repeat (first | apply Kd.R_alloc | apply Kd.R_drewN | apply Kd.R_drew)); exact (Kd.R_mono (Kd.R_far (p := ⟨gb106, 1, none⟩) (Kd.R_far (p := ⟨gb106, 0, none⟩) (Kd.R_mono HO_8.out (fun k_ hk => (⟨hk, hk.2⟩ : _ ∧ k_ ≠ gb106))) (fun _ hk => hk.2) (.int .i64 ((rd_T31 t101 x10_1).f0))) (fun _ hk => hk.2) (.int .i64 ((rd_T31 t101 x10_1).f1))) (fun _ h_ => h_.1))) hb); have n2_ := Aside0.mk (blk_below (g := gb106) (o := .cells #[.int .i64 ((rd_T31 t101 x10_1).f0), .int .i64 ((rd_T31 t101 x10_1).f1)] 31 (0, 0)) (by (with_reducible repeat (first | refine blk_drewN ?_ _ | refine blk_drew ?_ | refine blk_alloc ?_ _)); refine blk_put (cs := #[.int .i64 ((rd_T31 t101 x10_1).f0), .int .i64 0]) ?_ 1 _ rfl; (with_reducible repeat (first | refine blk_drewN ?_ _ | refine blk_drew ?_ | refine blk_alloc ?_ _)); refine blk_put (cs := #[.int .i64 0, .int .i64 0]) ?_ 0 _ rfl; (with_reducible repeat (first | refine blk_drewN ?_ _ | refine blk_drew ?_ | refine blk_alloc ?_ _)); exact BK106.out) hb); have n3_ := Aside0.mk (below_step (by repeat (first | (with_reducible first | exact HB.out | apply below_alloc | apply pw_below_drewN | apply below_drew1 | refine below_set ?_ GE106.out) | exact HB.out)) hb); clear HO_3; clear HO_8; clear BK106; clear HB; have HO_3 := n0_; have HO_8 := n1_; have BK106 := n2_; have HB := n3_; clear n0_ n1_ n2_ n3_; (try clear hb); (try clear hb2); (try clear hk); (try clear hi); have hcz24_0 : w23.cell? ⟨gb106, 0, none⟩ = some (.int .i64 ((rd_T31 t101 x10_1).f0)) := (blk_cell BK106.out 0).trans rfl; have hcz24_1 : w23.cell? ⟨gb106, 1, none⟩ = some (.int .i64 ((rd_T31 t101 x10_1).f1)) := (blk_cell BK106.out 1).trans rfl; have hfz24_0 := blk_frozen BK106.out 0; have hfz24_1 := blk_frozen BK106.out 1) | ((with_reducible refine gate_builtin (b := .append) (xs := #[.tmp 28, .tmp 30]) rfl ?_); at_builtin; refine Kd.R_append Kd.string (w0 := w) w.heap.size rfl (.tmp 28) (.tmp 30) 32 9 (.string ⟨#[]⟩) 16 rfl Tryd.underlying32 info9 rfl (by decide) (by omega) u3 x3_1 t107 [.string t107] (fun _ => True) (fun _ => False) rfl rfl ?aP (fun _ hk => hk.elim) ?aF ?aO ?aB ?aS ?aL ?_; (case aP => exact rfl); (case aB => exact (by repeat (first | (with_reducible first | exact HB.out | apply below_alloc | apply pw_below_drewN | apply below_drew1 | refine below_set ?_ GE106.out) | exact HB.out))); (case aF => exact (fun _ _ => trivial)); (case aO => exact (by (with_reducible repeat (first | apply Kd.R_alloc | apply Kd.R_drewN | apply Kd.R_drew)); exact HO_3.out)); (case aS => exact (below_size (by repeat (first | (with_reducible first | exact HB.out | apply below_alloc | apply pw_below_drewN | apply below_drew1 | refine below_set ?_ GE106.out) | exact HB.out)))); (case aL => have := LMc20.out; omega); intro v113 w25 ho hb hg hat; rw [← Ny112.out] at ho; have n0_ := Aside0.mk (Kd.R_over' (by (with_reducible repeat (first | apply Kd.R_alloc | apply Kd.R_drewN | apply Kd.R_drew)); exact HO_8.out) (Kd.R_typed (by (with_reducible repeat (first | apply Kd.R_alloc | apply Kd.R_drewN | apply Kd.R_drew)); exact HO_3.out)) (by decide) hg); have n1_ := Aside0.mk (blk_grown (g := gb106) (o := .cells #[.int .i64 ((rd_T31 t101 x10_1).f0), .int .i64 ((rd_T31 t101 x10_1).f1)] 31 (0, 0)) (by (with_reducible repeat (first | refine blk_drewN ?_ _ | refine blk_drew ?_ | refine blk_alloc ?_ _)); exact BK106.out) hg (Kd.R_ne HO_3.out BK106.out (by decide))); have n2_ := Aside0.mk (hb); have n3_ := Aside0.mk (ho); clear HO_8; clear BK106; clear HB; clear HO_3; have HO_8 := n0_; have BK106 := n1_; have HB := n2_; have HO114 := n3_; clear n0_ n1_ n2_ n3_; clear ho hb hg hat))
        go_roundg k1
        case measure => have := HK1.out; omega
        case rel => exact ⟨(y112), (wrap64 (x10_1 + 1)), (by first | rfl | (simp; done) | (simp [*]; done)), H', ⟨by have := HK1.out; omega⟩, ⟨by (with_reducible repeat (first | apply Kd.R_alloc | apply Kd.R_drewN | apply Kd.R_drew)); exact HO114.out⟩, ⟨by (with_reducible repeat (first | apply Kd.R_alloc | apply Kd.R_drewN | apply Kd.R_drew)); exact Kd.R_mono HO_8.out (fun _ hk => trivial)⟩, ⟨by repeat (first | (with_reducible first | exact HB.out | apply below_alloc | apply pw_below_drewN | apply below_drew1 | refine below_set ?_ GE106.out) | exact HB.out)⟩⟩
       ·rw [if_neg c20] at H
        exact absurd H (by simp)
     ·rw [if_neg c7] at H
      exact absurd H (by simp)
    ·rw [if_neg c6] at H
     exact absurd H (by simp)
   ·rw [if_neg c5] at H
    have c5b0 : decide (x10_1 < (t101.length : Int)) = false := decide_eq_false c5
    clear c5
    replace H := Option.bind_eq_some_iff.mp H
    obtain ⟨t104, A260, H⟩ := H
    replace H : (some t104) = some r := H
    have A26 := Aside0.mk A260
    clear A260
    obtain rfl := Option.some.inj H
    obtain ⟨Ao27, co27, eo27⟩ := Kd.R_slice HO_3.out
    subst eo27
    go_wp2_with (first | ((with_reducible refine gate_callee (f := 36) rfl ?_); refine goesL_ (some 34) rfl rfl Tryd.func36 (by kernel_rfl) rfl #[.slice Ao27 x3_1.length co27, .string (⟨#[44]⟩ : ByteArray)] rfl (by (try simp only [List.map_toArray, List.map_cons, List.map_nil]); first | done | rfl | (simp only [List.length_drop, List.length_take]; rfl)) ?_; (with_reducible refine (strings_Join.calls _ _ x3_1 (⟨#[44]⟩ : ByteArray) t104 _ ?side1 ?side2 A26.out (plain_R (by (with_reducible repeat (first | apply Kd.R_alloc | apply Kd.R_drewN | apply Kd.R_drew)); exact HO_3.out))).mono ?_); (case side1 => repeat (first | exact (Kd.R_reads' HO_3.out).2.2 | (with_reducible refine Kd.C_alloc ?_ _) | (with_reducible refine Kd.C_drewN ?_ _) | (with_reducible refine Kd.C_drew ?_))); (case side2 => exact (Kd.R_reads' HO_3.out).2.1); rintro e w28 ⟨rfl, hb⟩; refine ⟨_, rfl, ?_⟩; have n0_ := Aside0.mk (Kd.R_below (by (with_reducible repeat (first | apply Kd.R_alloc | apply Kd.R_drewN | apply Kd.R_drew)); exact HO_3.out) hb); have n1_ := Aside0.mk (Kd.R_below (by (with_reducible repeat (first | apply Kd.R_alloc | apply Kd.R_drewN | apply Kd.R_drew)); exact HO_8.out) hb); have n2_ := Aside0.mk (below_step (by repeat (first | (with_reducible first | exact HB.out | apply below_alloc | apply pw_below_drewN | apply below_drew1) | exact HB.out)) hb); clear HO_3; clear HO_8; clear HB; have HO_3 := n0_; have HO_8 := n1_; have HB := n2_; clear n0_ n1_ n2_; (try clear hb); (try clear hb2); (try clear hk); (try clear hi)))
    go_ret
    exact ⟨by first | rfl | (simp [errW_none, errW_some] <;> rfl) | (simp [*, errW_none, errW_some] <;> rfl), by repeat (first | (with_reducible first | exact HB.out | apply below_alloc | apply pw_below_drewN | apply below_drew1) | exact HB.out)⟩

end Go.Proofs.YtnlakdpfkgjdaaaDoor.G

/- What the printed walk of spans.Norm comes to. Condition: a bound on the list's length. -/
namespace Go.Proofs.YtnlakdpfkgjdaaaDoor.G
open Go Go.RowKit Go.Pk Go.Proofs.YtnlakdpfkgjdaaaDoorW.PrintWords Go.Proofs.YtnlakdpfkgjdaaaDoorW.PrintLast
theorem rd_at (l : List S31) (j : Nat) (h : j < l.length) : rd_T31 l (j : Int) = l[j] := by unfold rd_T31; simp [h]
theorem w64 (n : Int) (h0 : -9223372036854775808 ≤ n) (h1 : n ≤ 9223372036854775807) : wrap64 n = n := by unfold wrap64; omega
theorem step_set (q : List S31) (t s : S31) : (q ++ [t]).set q.length s = q ++ [s] := by simp
theorem step_len (out : List S31) (s : S31) : (stepS out s).length ≤ out.length + 1 := by
  unfold stepS
  rcases List.eq_nil_or_concat out with rfl | ⟨q, t, rfl⟩
  · simp
  · rw [List.concat_eq_append]; simp; split <;> simp
theorem fold_len (l : List S31) : ∀ out, (l.foldl stepS out).length ≤ out.length + l.length := by
  induction l with
  | nil => intro out; simp
  | cons s l ih => intro out; rw [List.foldl_cons]; have := ih (stepS out s); have := step_len out s; simp; omega
theorem norm_loop (l : List S31) (hl : l.length ≤ 1000000000) (hin : inS l) : ∀ (n j k : Nat) (out : List S31), j + n = l.length → out.length ≤ j → (∀ s ∈ out, s.f1 ≤ 16383 ∧ -1 ≤ s.f1) →
    spans_Norm.l0 (k + n + 1) out l (l.length : Int) (j : Int) = some ((l.drop j).foldl stepS out)
  | 0, j, k, out, hj, ho, hb => by
    rw [spans_Norm.l0, if_neg (by omega), List.drop_of_length_le (by omega)]; rfl
  | n + 1, j, k, out, hj, ho, hb => by
    have hlt : j < l.length := by omega
    have hs := hin l[j] (List.getElem_mem hlt)
    have ew : wrap64 ((j : Int) + 1) = ((j + 1 : Nat) : Int) := by rw [w64 _ (by omega) (by omega)]; omega
    have ih := fun out' h1 h2 => norm_loop l hl hin n (j + 1) k out' (by omega) h1 h2
    rw [show k + (n + 1) + 1 = (k + n + 1) + 1 by omega, spans_Norm.l0, if_pos (by omega), if_pos (by omega), if_pos (by omega), rd_at l j hlt, ew, List.drop_eq_getElem_cons hlt, List.foldl_cons]
    have hbs : ∀ s ∈ stepS out l[j], s.f1 ≤ 16383 ∧ -1 ≤ s.f1 := by
      intro s hmem
      unfold stepS at hmem
      rcases List.eq_nil_or_concat out with rfl | ⟨q, t, rfl⟩
      · rw [show ([] : List S31).getLast? = none from rfl] at hmem
        rw [List.mem_singleton.1 hmem]; omega
      · rw [List.concat_eq_append] at hmem hb
        have ht := hb t (by simp)
        rw [show (q ++ [t]).getLast? = some t by simp] at hmem
        dsimp only at hmem
        split at hmem
        · rw [List.dropLast_concat] at hmem
          rcases List.mem_append.1 hmem with h | h
          · exact hb s (by simp [h])
          · rw [List.mem_singleton.1 h]; show max _ _ ≤ _ ∧ _ ≤ max _ _; omega
        · rcases List.mem_append.1 hmem with h | h
          · exact hb s h
          · rw [List.mem_singleton.1 h]; omega
    have hlen := step_len out l[j]
    have ih := ih (stepS out l[j]) (by omega) hbs
    rcases List.eq_nil_or_concat out with rfl | ⟨q, t, rfl⟩
    · rw [if_neg (by simp), if_pos (by simp)]
      exact ih
    · rw [List.concat_eq_append] at hb ho hlen ih ⊢
      have ht := hb t (by simp)
      have hq : (q ++ [t]).length = q.length + 1 := by simp
      have e1 : wrap64 (((q ++ [t]).length : Int) - 1) = (q.length : Int) := by rw [hq, w64 _ (by omega) (by omega)]; omega
      have e2 : rd_T31 (q ++ [t]) (q.length : Int) = t := by rw [rd_at _ _ (by rw [hq]; omega)]; simp
      have e3 : wrap64 (t.f1 + 1) = t.f1 + 1 := w64 _ (by omega) (by omega)
      have hst : stepS (q ++ [t]) l[j] = if l[j].f0 ≤ t.f1 + 1 then q ++ [⟨t.f0, max t.f1 l[j].f1⟩] else q ++ [t] ++ [l[j]] := by
        unfold stepS; rw [show (q ++ [t]).getLast? = some t by simp]; simp
      have hmx : mx t.f1 l[j].f1 = max t.f1 l[j].f1 := by unfold mx; split <;> omega
      rw [if_pos (by rw [hq]; omega), e1, if_pos (by omega), if_pos (by rw [hq]; omega), e2, e3]
      rw [hst] at ih ⊢
      by_cases c : l[j].f0 ≤ t.f1 + 1
      · rw [if_pos c] at ih ⊢
        rw [if_pos c, hmx, Int.toNat_natCast, step_set]
        exact ih
      · rw [if_neg c] at ih ⊢
        rw [if_neg c, if_pos (by rw [hq]; omega)]
        exact ih
theorem norm_f (l : List S31) (hl : l.length ≤ 1000000000) (k : Nat) : spans_Norm.f (k + l.length + 1) l = some (normS l) := by
  have hsp := pdqS_spec (cutS l)
  have hle := cutS_len l
  unfold spans_Norm.f spans_said.f
  rw [if_pos hl]
  simp only [Option.bind_some]
  have h := norm_loop (pdqS (cutS l)) (by rw [hsp.1]; omega) (fun s hs => cut_in l s ((hsp.2.1 s).1 hs)) (pdqS (cutS l)).length 0 (k + l.length - (pdqS (cutS l)).length) [] (by omega) (by simp) (fun s hs => by cases hs)
  rw [show k + l.length - (pdqS (cutS l)).length + (pdqS (cutS l)).length + 1 = k + l.length + 1 by rw [hsp.1]; omega] at h
  rw [show ((0 : Nat) : Int) = 0 from rfl, List.drop_zero] at h
  rw [h]
  exact congrArg some (norm_merge l _ hsp.2.1 hsp.2.2)
theorem norm_any (A0 : Option Addr) (c0 : Nat) (l0 : List S31) (w : World) (hr0 : Kd.C k31 w A0 l0.length l0) (hc0 : l0.length ≤ c0) (h0 : l0.length ≤ 1000000000) :
    Calls Tryd.prog 16 #[.slice A0 l0.length c0] w fun e w' => ∃ v0_ : Value, e = .returned (v0_) ∧ Kd.R k31 31 w' w.heap.size (fun _ => True) v0_ (normS l0) ∧ Below w.heap.size w w' :=
  spans_Norm.calls (0 + l0.length + 1) A0 c0 l0 _ w hr0 hc0 (norm_f l0 h0 0)
theorem normS_len (l : List S31) : (normS l).length ≤ l.length := by
  have h := fold_len (pdqS (cutS l)) []
  have hsp := pdqS_spec (cutS l)
  have hle := cutS_len l
  have e : mergeS (pdqS (cutS l)) = normS l := norm_merge l _ hsp.2.1 hsp.2.2
  rw [← e]
  show ((pdqS (cutS l)).foldl stepS []).length ≤ _
  rw [hsp.1] at h
  simp at h; omega
end Go.Proofs.YtnlakdpfkgjdaaaDoor.G

/- What May and Text come to. Conditions: bounds on the lists' lengths. -/
namespace Go.Proofs.YtnlakdpfkgjdaaaDoor.G
open Go.RowKit Go.Cav Go.Proofs.YtnlakdpfkgjdaaaDoorW.PrintWords Go.Proofs.YtnlakdpfkgjdaaaDoorW.PrintLast Go.Proofs.YtnlakdpfkgjdaaaDoorW.PrintMore
instance decMayF : ∀ (a : Int) (l : List S31), Decidable (mayF a l)
  | _, [] => .isTrue trivial
  | a, s :: r => by
    have := decMayF (s.f1 + 1) r
    show Decidable (a < s.f0 ∧ s.f0 ≤ s.f1 ∧ s.f1 ≤ 16383 ∧ mayF (s.f1 + 1) r)
    infer_instance
/-- may a list be? -/
def mayB (l : List S31) : Bool := decide (mayF (-1) l)
theorem may_loop (l : List S31) (hl : l.length ≤ 1000000000000) : ∀ n j k (a : Int), j + n = l.length → -2 ≤ a → a ≤ 16383 → spans_May.l0 (k + n + 1) a l (l.length : Int) (j : Int) = some (decide (mayF (a + 1) (l.drop j)))
  | 0, j, k, a, hj, h0, h1 => by
    rw [List.drop_of_length_le (by omega), spans_May.l0, if_neg (by omega)]
    exact congrArg some (decide_eq_true (p := mayF (a + 1) []) trivial).symm
  | n + 1, j, k, a, hj, h0, h1 => by
    have hlt : j < l.length := by omega
    have ew : wrap64 ((j : Int) + 1) = ((j + 1 : Nat) : Int) := by rw [w64 _ (by omega) (by omega)]; omega
    have ea : wrap64 (a + 1) = a + 1 := w64 _ (by omega) (by omega)
    have hm : mayF (a + 1) (l[j] :: l.drop (j + 1)) ↔ a + 1 < l[j].f0 ∧ l[j].f0 ≤ l[j].f1 ∧ l[j].f1 ≤ 16383 ∧ mayF (l[j].f1 + 1) (l.drop (j + 1)) := Iff.rfl
    rw [show k + (n + 1) + 1 = (k + n + 1) + 1 by omega, spans_May.l0, if_pos (by omega), if_pos (by omega), if_pos (by omega), rd_at l j hlt, ew, ea, List.drop_eq_getElem_cons hlt]
    by_cases c1 : l[j].f0 ≤ a + 1
    · rw [if_pos c1, decide_eq_false (fun h => by have := (hm.1 h).1; omega)]
    · rw [if_neg c1]
      by_cases c2 : l[j].f0 < 0
      · rw [if_pos c2, decide_eq_false (fun h => by have := (hm.1 h).1; omega)]
      · rw [if_neg c2]
        by_cases c3 : l[j].f1 < l[j].f0
        · rw [if_pos c3, decide_eq_false (fun h => by have := (hm.1 h).2.1; omega)]
        · rw [if_neg c3]
          by_cases c4 : l[j].f1 > 16383
          · rw [if_pos c4, decide_eq_false (fun h => by have := (hm.1 h).2.2.1; omega)]
          · rw [if_neg c4, may_loop l hl n (j + 1) k l[j].f1 (by omega) (by omega) (by omega)]
            congr 1
            exact decide_eq_decide.2 ⟨fun h => hm.2 ⟨by omega, by omega, by omega, h⟩, fun h => (hm.1 h).2.2.2⟩
theorem may_f (l : List S31) (hl : l.length ≤ 1000000000000) (k : Nat) : spans_May.f (k + l.length + 1) l = some (mayB l) := by
  have h := may_loop l hl l.length 0 k (-2) (by omega) (by omega) (by omega)
  rw [List.drop_zero] at h
  exact h
theorem may_any (A0 : Option Addr) (c0 : Nat) (l0 : List S31) (w : World) (hr0 : Kd.C k31 w A0 l0.length l0) (hc0 : l0.length ≤ c0) (h0 : l0.length ≤ 1000000000000) :
    Calls Tryd.prog 14 #[.slice A0 l0.length c0] w fun e w' => e = .returned (.bool (mayB l0)) ∧ Below w.heap.size w w' :=
  spans_May.calls (0 + l0.length + 1) A0 c0 l0 _ w hr0 hc0 (may_f l0 h0 0)
/-- a span's text -/
def oneS (s : S31) : ByteArray := if s.f1 > s.f0 then itoaB s.f0 ++ ((⟨#[45]⟩ : ByteArray) ++ itoaB s.f1) else itoaB s.f0
/-- a list's text -/
def textS (l : List S31) : ByteArray := joinB ((normS l).map oneS) ⟨#[44]⟩
theorem itoaB_le {n : Int} (h0 : 0 ≤ n) (h1 : n ≤ 16383) : (itoaB n).size ≤ 21 := itoaB_size n (by omega) (by omega)
theorem oneS_le (s : S31) (h0 : 0 ≤ s.f0) (h1 : s.f0 ≤ s.f1) (h2 : s.f1 ≤ 16383) : (oneS s).size ≤ 43 := by
  have a := itoaB_le h0 (by omega)
  have b := itoaB_le (n := s.f1) (by omega) h2
  unfold oneS
  split
  · rw [ByteArray.size_append, ByteArray.size_append]
    show _ + (1 + _) ≤ _; omega
  · omega
theorem join_le (sep : UInt8) (l : List (List UInt8)) (h : ∀ x ∈ l, x.length ≤ 43) : (Lib.join l [sep]).length ≤ 44 * l.length := by
  induction l with
  | nil => simp [Lib.join]
  | cons a l ih =>
    have ha := h a (by simp)
    have ih := ih (fun x hx => h x (List.mem_cons_of_mem _ hx))
    cases l with
    | nil => simp [Lib.join]; omega
    | cons b l => simp [Lib.join] at ih ⊢; omega
theorem mayF_in : ∀ {a : Int} {l : List S31}, mayF a l → -1 ≤ a → ∀ s ∈ l, 0 ≤ s.f0 ∧ s.f0 ≤ s.f1 ∧ s.f1 ≤ 16383
  | _, [], _, _, s, h => by cases h
  | a, t :: r, ⟨h1, h2, h3, h4⟩, h0, s, h => by
    rcases List.mem_cons.1 h with rfl | h
    · exact ⟨by omega, h2, h3⟩
    · exact mayF_in h4 (by omega) s h
theorem text_loop (l : List S31) (hl : l.length ≤ 1000000000) (hin : ∀ s ∈ l, 0 ≤ s.f0 ∧ s.f0 ≤ s.f1 ∧ s.f1 ≤ 16383) : ∀ n j k (out : List ByteArray), j + n = l.length → out = (l.take j).map oneS → spans_Text.l0 (k + n + 1) out l (l.length : Int) (j : Int) = some (joinB (l.map oneS) ⟨#[44]⟩)
  | 0, j, k, out, hj, ho => by
    rw [spans_Text.l0, if_neg (by omega)]
    rw [List.take_of_length_le (by omega)] at ho
    subst ho
    unfold strings_Join.f
    have hj43 : (Lib.join ((l.map oneS).map (·.data.toList)) [44]).length ≤ 140737488355328 := by
      have := join_le 44 ((l.map oneS).map (·.data.toList)) (by
        intro x hx
        rw [List.map_map] at hx
        obtain ⟨s, hs, rfl⟩ := List.mem_map.1 hx
        have h := hin s hs
        have := oneS_le s h.1 h.2.1 h.2.2
        show (oneS s).data.toList.length ≤ 43
        rw [Array.length_toList]; exact this)
      rw [List.length_map, List.length_map] at this
      omega
    rw [if_pos ⟨by rw [List.length_map]; exact hl, hj43⟩]
    rfl
  | n + 1, j, k, out, hj, ho => by
    have hlt : j < l.length := by omega
    have hs := hin l[j] (List.getElem_mem hlt)
    have ew : wrap64 ((j : Int) + 1) = ((j + 1 : Nat) : Int) := by rw [w64 _ (by omega) (by omega)]; omega
    have hol : out.length < 8796093022208 := by rw [ho, List.length_map, List.length_take]; omega
    have ei : ∀ m : Int, 0 ≤ m → m ≤ 16383 → strconv_Itoa.f m = some (itoaB m) := fun m h0 h1 => by unfold strconv_Itoa.f; rw [if_pos ⟨by omega, by omega⟩]
    have a := itoaB_le hs.1 (by omega)
    have b := itoaB_le (n := l[j].f1) (by omega) hs.2.2
    rw [show k + (n + 1) + 1 = (k + n + 1) + 1 by omega, spans_Text.l0, if_pos (by omega), if_pos (by omega), if_pos (by omega), rd_at l j hlt, ew, ei _ hs.1 (by omega), ei _ (by omega) hs.2.2]
    have ho2 : (l.take (j + 1)).map oneS = out ++ [oneS l[j]] := by rw [List.take_succ_eq_append_getElem hlt, List.map_append, ← ho]; rfl
    simp only [Option.bind_some]
    by_cases c : l[j].f1 > l[j].f0
    · rw [if_pos c, if_pos (by omega), if_pos (by rw [ByteArray.size_append]; show _ + (1 + _) ≤ _; omega), if_pos hol]
      refine text_loop l hl hin n (j + 1) k _ (by omega) ?_
      rw [ho2]; unfold oneS; rw [if_pos c]
    · rw [if_neg c, if_pos hol]
      refine text_loop l hl hin n (j + 1) k _ (by omega) ?_
      rw [ho2]; unfold oneS; rw [if_neg c]
theorem text_f (l : List S31) (hl : l.length ≤ 1000000000) (k : Nat) : spans_Text.f (k + l.length + 1) l = some (textS l) := by
  have hn := normS_len l
  unfold spans_Text.f
  rw [norm_f l hl k, Option.bind_some]
  have h := text_loop (normS l) (by omega) (mayF_in (norm_spec l).1 (by omega)) (normS l).length 0 (k + l.length - (normS l).length) [] (by omega) (by simp)
  rw [show k + l.length - (normS l).length + (normS l).length + 1 = k + l.length + 1 by omega] at h
  exact h
theorem text_any (A0 : Option Addr) (c0 : Nat) (l0 : List S31) (w : World) (hr0 : Kd.C k31 w A0 l0.length l0) (hc0 : l0.length ≤ c0) (h0 : l0.length ≤ 1000000000) (hW : Wd w) :
    Calls Tryd.prog 22 #[.slice A0 l0.length c0] w fun e w' => e = .returned (.string (textS l0)) ∧ Below w.heap.size w w' :=
  spans_Text.calls (0 + l0.length + 1) A0 c0 l0 _ w hr0 hc0 (text_f l0 h0 0) hW
end Go.Proofs.YtnlakdpfkgjdaaaDoor.G

/- Steps of the fenced walk at rows of cells: a load and a store of a whole row. No conditions. -/
namespace Go.Cav
open Go Go.RowKit
variable {P : Program}

theorem wpListIn_store_row {F : Fence} {nf : Nat} {ops : Array Oper} {rest : List Oper} {o : Oper} {a : Act} {w : World} {Q : Exit → Act → World → Prop} (hgd : o.guard = none) (ty : TypeId) (x y : Operand) (ho : o.op = .store ty x y)
    (g : Nat) (cells : Array Value) (hx : a.eval x = .pointer (some ⟨g, 0, none⟩)) (hy : a.eval y = .agg cells)
    (t : TypeId) (old : Array Value) (hg : w.heap[g]? = some (.cells old t (0, 0))) (hi : (P.info? ty).map (·.size) = some cells.size)
    (hold : old.size = cells.size) (h1 : cells.all (·.oneCell') = true)
    (h : wpListIn F nf P ops Q rest (a.put o.dst undef) (w.setRow g cells)) : wpListIn F nf P ops Q (o :: rest) a w := by
  refine wpListIn_plain hgd fun K hK => ?_
  unfold Oper.wpIn
  refine ⟨?_, ?_⟩
  · simp [Oper.about, ho]
  · rw [Oper.semAt_plain F _ _ (by rw [ho]; intro c hc'; cases hc')]
    simp only [execOp, ho, hx, hy, Instr.storeAt, Instr.sureAddr, Sem.run_bind, Sem.run_pure, Result.andThen_ok, run_storeVar_row w g t ty old cells hg hi hold h1]
    exact hK _ _ h

theorem wpListIn_load_row {F : Fence} {nf : Nat} {ops : Array Oper} {rest : List Oper} {o : Oper} {a : Act} {w : World} {Q : Exit → Act → World → Prop} (hgd : o.guard = none) (ty : TypeId) (x : Operand) (ho : o.op = .load ty x)
    (g : Nat) (hx : a.eval x = .pointer (some ⟨g, 0, none⟩)) (t : TypeId) (cs : Array Value) (fr : Nat × Nat) (d : TypeDesc) (hg : w.heap[g]? = some (.cells cs t fr))
    (hu : P.underlying ty = some d) (hd : (match d with | .struct _ | .array _ _ => true | _ => false) = true) (hi : (P.info? ty).map (·.size) = some cs.size)
    (h : wpListIn F nf P ops Q rest (a.put o.dst (.agg cs)) w) : wpListIn F nf P ops Q (o :: rest) a w := by
  refine wpListIn_plain hgd fun K hK => ?_
  unfold Oper.wpIn
  refine ⟨?_, ?_⟩
  · simp [Oper.about, ho]
  · rw [Oper.semAt_plain F _ _ (by rw [ho]; intro c hc'; cases hc')]
    simp only [execOp, ho, hx, Instr.loadAt, Instr.sureAddr, Sem.run_bind, Sem.run_pure, Result.andThen_ok, run_loadVar_row w g t ty cs fr d hg hu hd hi]
    exact hK _ _ h

theorem wpListIn_build {F : Fence} {nf : Nat} {ops : Array Oper} {rest : List Oper} {o : Oper} {a : Act} {w : World} {Q : Exit → Act → World → Prop} (hgd : o.guard = none) (t : TypeId) (parts : Array (Nat × Operand)) (ho : o.op = .build t parts)
    (cells : Array Value) (hf : P.built t (parts.map fun (i, x) => (i, a.eval x)).toList = some cells)
    (h : wpListIn F nf P ops Q rest (a.put o.dst (.agg cells)) w) : wpListIn F nf P ops Q (o :: rest) a w := by
  refine wpListIn_plain hgd fun K hK => ?_
  unfold Oper.wpIn
  refine ⟨?_, ?_⟩
  · simp [Oper.about, ho]
  · rw [Oper.semAt_plain F _ _ (by rw [ho]; intro c hc'; cases hc')]
    unfold execOp
    simp only [ho, Sem.run_bind, run_build w t _ cells hf, Result.andThen_ok]
    exact hK _ _ h

theorem grownBy_setRow (W : World) (g : Nat) (new : Array Value) : W.grownBy (W.setRow g new) (some g) :=
  ⟨rfl, rfl, rfl, by simp [World.setRow], fun k _ hk => setRow_other W g k new (fun e => hk (by rw [e]))⟩
theorem KeepsOthers.setRow (W : World) (g : Nat) (new old : Array Value) (t : TypeId) (fr : Nat × Nat) (h : W.heap[g]? = some (.cells old t fr)) : KeepsOthers W (W.setRow g new) :=
  KeepsOthers.of_grownBy (grownBy_setRow W g new) (fun j o e hj => by cases e; rw [h] at hj; cases hj; rfl)
theorem Stir.setRow {S : Nat → Prop} {a b : World} (h : Stir S a b) {g : Nat} (hg : g < a.heap.size → S g) (new : Array Value) : Stir S a (b.setRow g new) :=
  h.grown (grownBy_setRow b g new) (fun k e hk => by cases e; exact hg hk)
end Go.Cav

/- spans.Read: what it tells of a text. Condition: a bound on the text's length. -/
namespace Go.Proofs.YtnlakdpfkgjdaaaDoor.G
open Go.RowKit Go.Shelf Go.Cav Go.Proofs.YtnlakdpfkgjdaaaDoorW.PrintWords Go.Proofs.YtnlakdpfkgjdaaaDoorW.PrintLast Go.Proofs.YtnlakdpfkgjdaaaDoorW.PrintMore
attribute [local go_sem] Oper.semAt_some
/-- is a text a number for Atoi? -/
def atoiO (s : ByteArray) : Bool := match Lib.atoiAll s.data.toList with | .ok _ => true | _ => false
theorem atoi_err (s : ByteArray) (hs : s.size ≤ 281474976710656) (w : World) (hW : Wd w) :
    Calls Tryd.prog 31 #[.string s] w fun e w' => ∃ ev, e = .returned (.tuple #[.int .i64 (atoiV s), ev]) ∧ (atoiO s = true → ev = .nilIface) ∧ (atoiO s = false → ∃ te pe, ev = .iface te pe) ∧ Below w.heap.size w w' := by
  obtain ⟨ev0, hv0, he0⟩ := hW.syn
  obtain ⟨ev1, hv1, he1⟩ := hW.rng
  unfold atoiV atoiO
  cases hc : Lib.atoiAll s.data.toList with
  | «syntax» =>
    refine (Tryd.strconv_Atoi_syntax s hs hc ev0 w hv0 he0).mono ?_
    rintro e w1 ⟨N, rfl, -, -, hb⟩
    exact ⟨_, rfl, fun h => by simp at h, fun _ => ⟨_, _, rfl⟩, hb⟩
  | range =>
    refine (Tryd.strconv_Atoi_range s hs hc ev1 w hv1 he1).mono ?_
    rintro e w1 ⟨N, rfl, -, -, hb⟩
    exact ⟨_, rfl, fun h => by simp at h, fun _ => ⟨_, _, rfl⟩, hb⟩
  | ok v =>
    refine (Tryd.strconv_Atoi_ok s (by omega) v hc w).mono ?_
    rintro e w1 ⟨rfl, hb⟩
    exact ⟨_, rfl, fun _ => rfl, fun h => by simp at h, atoi_ok_below hb⟩
def cut1 (x : ByteArray) : ByteArray := ⟨(Lib.cut x.data.toList [45]).1.toArray⟩
def cut2 (x : ByteArray) : ByteArray := ⟨(Lib.cut x.data.toList [45]).2.1.toArray⟩
def cutH (x : ByteArray) : Bool := (Lib.cut x.data.toList [45]).2.2
theorem cut_sizes (x : ByteArray) : (cut1 x).size ≤ x.size ∧ (cut2 x).size ≤ x.size := by
  unfold cut1 cut2 Lib.cut
  have e : ∀ l : List UInt8, (ByteArray.mk l.toArray).size = l.length := fun l => rfl
  have h : x.data.toList.length = x.size := by rw [Array.length_toList]; rfl
  split
  · exact ⟨by rw [← h]; exact Nat.le_trans (Nat.le_of_eq (List.length_take)) (Nat.min_le_right _ _), by rw [← h]; exact Nat.le_trans (Nat.le_of_eq (List.length_drop)) (Nat.sub_le _ _)⟩
  · exact ⟨by rw [← h]; exact Nat.le_refl _, Nat.zero_le _⟩
/-- the span that a piece tells -/
def oneP (x : ByteArray) : Option S31 :=
  if atoiO (cut1 x) = true ∧ (cutH x = true → atoiO (cut2 x) = true) then some ⟨atoiV (cut1 x), if cutH x then atoiV (cut2 x) else atoiV (cut1 x)⟩ else none
/-- the spans of the pieces up to the first that tells none -/
def readL : List ByteArray → List S31
  | [] => []
  | x :: r => match oneP x with | some s => s :: readL r | none => []
/-- do all tell one? -/
def okL (l : List ByteArray) : Prop := ∀ x ∈ l, (oneP x).isSome = true
theorem readL_app : ∀ {l : List ByteArray} (m : List ByteArray), okL l → readL (l ++ m) = readL l ++ readL m
  | [], m, _ => rfl
  | x :: l, m, h => by
    have hx := h x (by simp)
    rw [List.cons_append, readL, readL]
    cases ho : oneP x with
    | none => rw [ho] at hx; simp at hx
    | some s => simp only; rw [readL_app m (fun y hy => h y (by simp [hy]))]; rfl
theorem readL_len : ∀ l : List ByteArray, (readL l).length ≤ l.length
  | [] => by simp [readL]
  | x :: l => by
    have := readL_len l
    rw [readL]
    split
    · simp; exact this
    · simp
def readP (s : ByteArray) : List S31 × Bool := if mayB (readL (cutB s)) = true ∧ textS (readL (cutB s)) = s then (readL (cutB s), true) else ([], false)
theorem R_cells {w : World} {base : Nat} {v : Value} {l : List S31} (h : w.ownsRow base 31 2 v l.length (l.flatMap encSp)) : Kd.R k31 31 w base (fun _ => True) v l := by
  refine ⟨fun _ _ => trivial, l.flatMap encSp, h, ?_⟩
  have key : ∀ l : List S31, Reps (k31.M w base (fun k => True ∧ some k ≠ v.ownBlock)) 2 l (l.flatMap encSp) := by
    intro l
    induction l with
    | nil => exact Reps.none _ _
    | cons a l ih =>
      refine ⟨by rw [List.flatMap_cons, List.length_append, ih.1, List.length_cons]; show 2 + _ = _; omega, fun j p hj => ?_⟩
      cases j with
      | zero =>
        obtain rfl : a = p := by simpa using hj
        show k31.M w base _ a ((((encSp a) ++ l.flatMap encSp).drop (0 * 2)).take 2)
        exact k31_mkM _ _ _ a
      | succ j =>
        have := ih.2 j p (by simpa using hj)
        rw [List.flatMap_cons, show (j + 1) * 2 = (encSp a).length + j * 2 by show _ = 2 + _; omega, ← List.drop_drop, List.drop_left]
        exact this
  exact key l
theorem KeepsOthers.of_below {W W' : World} (h : Below W.heap.size W W') : KeepsOthers W W' :=
  ⟨h.size, fun k _ hk _ => (h.block k (lt_of_heap hk)).trans hk⟩
theorem info31_parts : ∃ i, Tryd.prog.info? 31 = some i ∧ i.zero = some (.agg #[.int .i64 0, .int .i64 0]) ∧ i.size = 2 ∧ i.bytes = 16 := by
  have h : (Tryd.prog.info? 31).map (fun i => (i.zero, i.size, i.bytes)) = some (some (.agg #[.int .i64 0, .int .i64 0]), 2, 16) := by kernel_rfl
  cases ho : Tryd.prog.info? 31 with
  | none => rw [ho] at h; cases h
  | some i => rw [ho] at h; simp only [Option.map_some, Option.some.injEq, Prod.mk.injEq] at h; exact ⟨i, rfl, h.1, h.2.1, h.2.2⟩

set_option maxRecDepth 100000 in
set_option maxHeartbeats 4000000 in
theorem read_any (s : ByteArray) (hs : s.size ≤ 1000000) (w : World) (hW : Wd w) :
    Calls Tryd.prog 10 #[.string s] w fun e w' => ∃ v, e = .returned (.tuple #[v, .bool (readP s).2]) ∧ Kd.R k31 31 w' w.heap.size (fun _ => True) v (readP s).1 ∧ Below w.heap.size w w' := by
  obtain ⟨i0, hi, hz0, hz1, hz2⟩ := info31_parts
  obtain ⟨m, hm⟩ := hW.most
  have hgl := World.block_lt_of_cell? w _ hm
  dsimp only at hgl
  refine (callsIn_wide (n := 6)).1 ?_
  have h1 : 1 ≤ 6 := by omega
  refine callsIn_of_wp_marks Tryd.func10 rfl trivial ?_ rfl
  simp only [Tryd.ntmps10, List.size_toArray, List.length_cons, List.length_nil, Nat.reduceAdd, Nat.reduceSub, Array.replicate_succ, Array.replicate_zero, List.push_toArray, List.append_toArray, List.nil_append, List.cons_append]
  have bO := Boxed.new w 23 (.slice none 0 0)
  have hsp := fun W => split_any s W
  gi_wp2_with fail
  refine ⟨trivial, (callsIn_wide.2 (hsp _)).mono ?_⟩
  rintro e w1 ⟨rfl, hw1⟩
  clear hsp
  have hsz1 : w1.heap.size = w.heap.size + 4 := by rw [hw1]; simp
  have hb1 : Below w.heap.size w w1 := by rw [hw1]; exact ((((Below.refl _ w).alloc (Nat.le_refl _) _).alloc (by simp) _).alloc (by simp; omega) _).alloc (by simp; omega) _
  have bO1 : Boxed w1 w.heap.size 23 (.slice none 0 0) := by rw [hw1]; exact ((bO.alloc _).alloc _).alloc _
  have bS1 : Boxed w1 (w.heap.size + 1) 9 (.string s) := by
    rw [hw1]
    have := Boxed.new (w.alloc (.cells #[.slice none 0 0] 23)) 9 (.string s)
    rw [World.size_alloc] at this; exact (this.alloc _).alloc _
  have bP1 : Boxed w1 (w.heap.size + 1 + 1) 9 (.string ⟨#[44]⟩) := by
    rw [hw1]
    have := Boxed.new ((w.alloc (.cells #[.slice none 0 0] 23)).alloc (.cells #[.string s] 9)) 9 (.string ⟨#[44]⟩)
    rw [World.size_alloc, World.size_alloc] at this; exact this.alloc _
  have bZ1 : Boxed w1 (w.heap.size + 1 + 1 + 1) 3 (.int .i64 0) := by
    rw [hw1]
    have := Boxed.new (((w.alloc (.cells #[.slice none 0 0] 23)).alloc (.cells #[.string s] 9)).alloc (.cells #[.string ⟨#[44]⟩] 9)) 3 (.int .i64 0)
    rw [World.size_alloc, World.size_alloc, World.size_alloc] at this; exact this
  clear hw1 bO
  obtain ⟨T, hT⟩ : ∃ T : Nat → Prop, T = (fun k => k = w.heap.size ∨ w.heap.size + 4 ≤ k) := ⟨_, rfl⟩
  obtain ⟨T2, hT2⟩ : ∃ T2 : Nat → Prop, T2 = (fun k => w.heap.size ≤ k) := ⟨_, rfl⟩
  have hTT : ∀ k, T k → T2 k := by rw [hT, hT2]; intro k hk; omega
  have hm1 : w1.cell? ⟨0, 0, none⟩ = some (.int .i64 m) := (Stir.of_below hb1 (fun _ => False)).cell hm (fun e => e)
  have hseq := commas_seq T (w.heap.size + 1 + 1) (w.heap.size + 1) (w.heap.size + 1 + 1 + 1) m (by omega) (by omega) (by omega) (by rw [hT]; omega) (by rw [hT]; omega) (by rw [hT]; omega) (by rw [hT]; omega) 5 (by omega) s (by omega) w1 bP1 bS1 bZ1 hm1
  have hlen := cutB_len s
  clear bP1 bS1 bZ1 hm1
  have hO : ∀ A B, Own1 (w.heap.size + 1) A B → Stir (fun k => k = w.heap.size + 1) A B := fun A B h => h.1
  gi_wp2_with fail
  refine wpIn_rangeFunc_T rfl h1 (gf := 59) (lb := #[.pointer (some ⟨w.heap.size + 1 + 1, 0, none⟩), .pointer (some ⟨w.heap.size + 1, 0, none⟩), .pointer (some ⟨w.heap.size + 1 + 1 + 1, 0, none⟩)]) rfl trivial (enters_of Tryd.func59 (by kernel_rfl) rfl)
    hseq (own1_plain _) stirK_t (stirK_b (by rw [hT]; intro k hk; omega)) (Below.refl _ _) (fun _ => rfl)
    (fun pre W => ((∃ v, Boxed W w.heap.size 23 v ∧ W.ownsRow (w.heap.size + 4) 31 2 v (readL (pre.map (·.1))).length ((readL (pre.map (·.1))).flatMap encSp) ∧ True) ∧ Stir T2 w1 W) ∧ okL (pre.map (·.1)))
    (fun c pre W => ((∃ v, Boxed W w.heap.size 23 v ∧ W.ownsRow (w.heap.size + 4) 31 2 v (readL (pre.map (·.1))).length ((readL (pre.map (·.1))).flatMap encSp) ∧ True) ∧ Stir T2 w1 W) ∧ (c = .exit 0 ∧ ∀ t, readL (pre.map (·.1) ++ t) = readL (pre.map (·.1))))
    (OwnFrom.and (OwnFrom.and (Own.from (holdsRow_own (w.heap.size + 4) w.heap.size 23 31 2 (fun pre : List Pc => (readL (pre.map (·.1))).length) (fun pre => (readL (pre.map (·.1))).flatMap encSp) (fun _ _ => True)) _) (ownFrom_stir w1 (by rw [hT2]; intro k hk; omega))) (ownFrom_pure' _))
    (fun c => OwnFrom.and (OwnFrom.and (Own.from (holdsRow_own (w.heap.size + 4) w.heap.size 23 31 2 (fun pre : List Pc => (readL (pre.map (·.1))).length) (fun pre => (readL (pre.map (·.1))).flatMap encSp) (fun _ _ => True)) _) (ownFrom_stir w1 (by rw [hT2]; intro k hk; omega))) (ownFrom_pure' _)) ?abides ?abidesx
    ⟨⟨⟨_, bO1, World.ownsRow_nil _ _ _ _, trivial⟩, Stir.refl _ _⟩, fun x hx => by cases hx⟩
    (fun x => { tmps := #[.string s, undef, .slice none 0 0, .bool false, .pointer (some ⟨w.heap.size, 0, none⟩), .string x.1, undef, undef, undef, undef, undef, undef, undef, .string s, .func (.func 59) #[] #[.pointer (some ⟨w.heap.size + 1 + 1, 0, none⟩), .pointer (some ⟨w.heap.size + 1, 0, none⟩), .pointer (some ⟨w.heap.size + 1 + 1 + 1, 0, none⟩)], .string x.1, undef, undef, undef, undef, undef, undef, undef, undef, undef, undef, undef, undef, undef, undef, undef, undef, undef, undef, undef, undef, undef, undef, undef, undef, undef, undef, undef, undef, undef, undef, undef, undef, undef, undef, undef, undef, undef, undef, undef, undef, undef], defers := [] }) ?assign ?body ?done ?stop
  case abides =>
    rintro p X Y ⟨⟨⟨v, h1, h2, _⟩, h3⟩, h4⟩ hr
    have hs := hO _ _ hr
    refine ⟨⟨⟨v, boxed_stir h1 hs (by omega), hs.owns h2 (fun k hk => ?_), trivial⟩, h3.trans hs (fun i _ e => by rw [hT2]; omega)⟩, h4⟩
    have := (h2.lt k hk).1
    omega
  case abidesx =>
    rintro c p X Y ⟨⟨⟨v, h1, h2, _⟩, h3⟩, h4⟩ hr
    have hs := hO _ _ hr
    refine ⟨⟨⟨v, boxed_stir h1 hs (by omega), hs.owns h2 (fun k hk => ?_), trivial⟩, h3.trans hs (fun i _ e => by rw [hT2]; omega)⟩, h4⟩
    have := (h2.lt k hk).1
    omega
  case assign =>
    intro l x W K hK
    gi_wp2
    exact hK
  case body =>
    rintro l pre x W ⟨⟨⟨v, hv, hrow, _⟩, hS⟩, hok⟩ hlen2
    have hsz : w1.heap.size ≤ W.heap.size := hS.size
    have hWb : Below w.heap.size w W := hb1.trans (hS.below (by omega) (by rw [hT2]; intro k h; exact h))
    have hWW : Wd W := hW.of hWb
    obtain ⟨m', hm'⟩ := hWW.most
    have hrl := readL_len (pre.map (·.1))
    rw [List.length_map] at hrl
    have hcs := cut_sizes x.1
    have hxs := x.2
    have hTb : ∀ i, w.heap.size + 4 ≤ i → T i := by intro k hk; rw [hT]; exact .inr hk
    have hTB : T w.heap.size := by rw [hT]; exact .inl rfl
    have hCut : Calls Tryd.prog 30 #[.string x.1, .string ⟨#[45]⟩] W fun e w' => e = .returned (.tuple #[.string (cut1 x.1), .string (cut2 x.1), .bool (cutH x.1)]) ∧ ∃ n, w' = W.drewN n := Tryd.strings_Cut x.1 ⟨#[45]⟩ m' W (by omega) hm'
    have hA : ∀ w', Below W.heap.size W w' → _ := fun w' hb => atoi_err (cut1 x.1) (by omega) w' (hWW.of hb)
    have hA2 : ∀ w', Below W.heap.size W w' → _ := fun w' hb => atoi_err (cut2 x.1) (by omega) w' (hWW.of hb)
    have HRL : Hid (∀ sp, oneP x.1 = some sp → readL ((pre ++ [x]).map (·.1)) = readL (pre.map (·.1)) ++ [sp]) := Lib.hid fun sp h => by rw [List.map_append, readL_app _ hok]; show _ ++ readL [x.1] = _; rw [readL, h]; rfl
    have HNO : Hid (oneP x.1 = none → readL ((pre ++ [x]).map (·.1)) = readL (pre.map (·.1))) := Lib.hid fun h => by rw [List.map_append, readL_app _ hok]; show _ ++ readL [x.1] = _; rw [readL, h, List.append_nil]
    have HOK : Hid ((oneP x.1).isSome = true → okL ((pre ++ [x]).map (·.1))) := Lib.hid fun h y hy => by
      rw [List.map_append] at hy
      rcases List.mem_append.1 hy with hy | hy
      · exact hok y hy
      · obtain rfl : y = x.1 := by simpa using hy
        exact h
    have HOKP := Lib.hid hok
    clear hok hm' hWb
    gi_wp2_with fail
    refine ⟨trivial, ((callsIn_wide.2 hCut).inRound l).mono ?_⟩
    rintro e w3 ⟨rfl, nq, hw3⟩
    have hB3 : Below W.heap.size W w3 := by rw [hw3]; exact ((Stir.refl (fun _ => False) W).drewN nq).below (Nat.le_refl _) (fun _ e => e.elim)
    clear hCut hw3
    gi_wp2_with fail
    refine ⟨trivial, ((callsIn_wide.2 (hA _ hB3)).inRound l).mono ?_⟩
    rintro e w4 ⟨ev, rfl, he1, he2, hB4⟩
    have HBX := Lib.hid (hB3.trans (hB4.mono hB3.size))
    clear hA hB3 hB4
    cases hH : cutH x.1 with
    | false =>
      cases ho : atoiO (cut1 x.1) with
      | false =>
        have HP : Hid (oneP x.1 = none) := Lib.hid (by unfold oneP; rw [if_neg (by rw [ho]; simp)])
        obtain ⟨te, pe, rfl⟩ := he2 ho
        clear he1 he2 hA2 ho
        have hv0 := boxed_stir hv (Stir.of_below HBX.out (fun _ => False)) (fun e => e)
        have hrowx := (Stir.of_below HBX.out (fun _ => False)).owns hrow (fun _ _ e => e)
        have Hq := Lib.hid (And.intro hv0 hrowx)
        clear hv hrow hv0 hrowx
        gi_wp2
        obtain ⟨b1, b2⟩ := Hq.out
        refine ⟨(KeepsOthers.of_below HBX.out).from _, ⟨⟨_, b1, ?_, trivial⟩, hS.trans (Stir.of_below HBX.out (fun _ => False)) (fun _ _ e => e.elim)⟩, rfl, ?_⟩
        · rw [HNO.out HP.out]; exact b2
        · intro t; rw [HNO.out HP.out, List.map_append, List.append_assoc, readL_app _ HOKP.out]; show _ ++ readL (x.1 :: t) = _; rw [readL, HP.out, List.append_nil]
      | true =>
        have HP : Hid (oneP x.1 = some ⟨atoiV (cut1 x.1), atoiV (cut1 x.1)⟩) := Lib.hid (by unfold oneP; rw [if_pos ⟨ho, by rw [hH]; simp⟩, hH]; rfl)
        obtain rfl := he1 ho
        clear he1 he2 hA2 ho
        have hv0 := (boxed_stir hv (Stir.of_below HBX.out (fun _ => False)) (fun e => e)).alloc (.cells #[.int .i64 (atoiV (cut1 x.1)), .int .i64 (atoiV (cut1 x.1))] 31)
        have hf0 := hv0.frozen
        have hc := (boxed_stir hv (Stir.of_below HBX.out (fun _ => False)) (fun e => e)).cell
        have hrowx := (Stir.of_below HBX.out (fun _ => False)).owns hrow (fun _ _ e => e)
        have hrow0 := hrowx.kept (World.grownBy_alloc w4 (.cells #[.int .i64 (atoiV (cut1 x.1)), .int .i64 (atoiV (cut1 x.1))] 31) none) (by cases h : v.ownBlock with | none => exact .inl rfl | some _ => exact .inr (by simp))
        have hS0 : Stir T W (w4.alloc (.cells #[.int .i64 (atoiV (cut1 x.1)), .int .i64 (atoiV (cut1 x.1))] 31)) := (Stir.of_below HBX.out T).alloc _
        have hK0 : KeepsOthers W (w4.alloc (.cells #[.int .i64 (atoiV (cut1 x.1)), .int .i64 (atoiV (cut1 x.1))] 31)) := (KeepsOthers.of_below HBX.out).trans (KeepsOthers.alloc _ _)
        have hx : ∀ j u, ([.int .i64 (atoiV (cut1 x.1)), .int .i64 (atoiV (cut1 x.1))] : List Value)[j]? = some u → (w4.alloc (.cells #[.int .i64 (atoiV (cut1 x.1)), .int .i64 (atoiV (cut1 x.1))] 31)).cell? ((⟨w4.heap.size, 0, none⟩ : Addr).add j) = some u := by
          intro j u hj
          match j, hj with
          | 0, hj => cases hj; show (w4.alloc _).cell? ⟨w4.heap.size, 0, none⟩ = _; unfold World.cell?; rw [heap_alloc_new]; rfl
          | 1, hj => cases hj; show (w4.alloc _).cell? ⟨w4.heap.size, 0 + 1, none⟩ = _; unfold World.cell?; rw [heap_alloc_new]; rfl
          | j + 2, hj => simp at hj
        have hzx : w.heap.size + 4 ≤ w4.heap.size := by have := HBX.out.size; omega
        gi_wp2_with (gi_at_builtin; go_loud (refine wpListIn_append_own (w4.alloc (.cells #[.int .i64 (atoiV (cut1 x.1)), .int .i64 (atoiV (cut1 x.1))] 31)) rfl (.tmp 41) (.tmp 45) 23 rfl (w.heap.size + 4) 31 i0 (.agg #[.int .i64 0, .int .i64 0]) 2 16 Tryd.underlying23 hi hz0 hz1 hz2 rfl (by decide) _ _ _ rfl hrow0 ⟨w4.heap.size, 0, none⟩ 1 1 [.int .i64 (atoiV (cut1 x.1)), .int .i64 (atoiV (cut1 x.1))] rfl rfl hx (by intro u hu; simp at hu; rcases hu with rfl | rfl <;> rfl) (by unfold maxLen; omega) (by omega) (by simp; omega) ?_))
        intro v' w7 hown hgrow _
        obtain ⟨b1, b2, b3, b4, b5⟩ := Cav.Boxed.app hv (by decide) hrow hK0 hS0 hv0 hrow0 hTB hTb hown hgrow
        obtain ⟨a3, c3, rfl⟩ := owns_slice hown
        have m1 := b1.cell
        have m2 := b1.frozen
        have Hq := Lib.hid (And.intro b2 (And.intro b3 (And.intro b4 b5)))
        clear hown hgrow hrow b1 b2 b3 b4 b5 hc hv hv0 hrow0 hrowx hS0 hK0 hx hf0 HBX
        gi_wp2
        obtain ⟨b2, b3, b4, b5⟩ := Hq.out
        refine ⟨b4.from _, b5, ⟨⟨_, b2, ?_, trivial⟩, hS.trans b5 (fun i _ e => hTT i e)⟩, ?_⟩
        · rw [HRL.out _ HP.out]
          simpa [encSp] using b3
        · exact HOK.out (by rw [HP.out]; rfl)
    | true =>
      gi_wp2_with fail
      refine ⟨trivial, ((callsIn_wide.2 (hA2 _ HBX.out)).inRound l).mono ?_⟩
      rintro e w5 ⟨ev2, rfl, hg1, hg2, hB5⟩
      have HBY := Lib.hid (HBX.out.trans (hB5.mono HBX.out.size))
      clear HBX hB5 hA2
      have HBX := HBY
      clear HBY
      cases ho : atoiO (cut1 x.1) with
      | false =>
        have HP : Hid (oneP x.1 = none) := Lib.hid (by unfold oneP; rw [if_neg (by rw [ho]; simp)])
        obtain ⟨te, pe, rfl⟩ := he2 ho
        clear he1 he2 hg1 hg2 ho
        have hv0 := boxed_stir hv (Stir.of_below HBX.out (fun _ => False)) (fun e => e)
        have hrowx := (Stir.of_below HBX.out (fun _ => False)).owns hrow (fun _ _ e => e)
        have Hq := Lib.hid (And.intro hv0 hrowx)
        clear hv hrow hv0 hrowx
        gi_wp2
        obtain ⟨b1, b2⟩ := Hq.out
        refine ⟨(KeepsOthers.of_below HBX.out).from _, ⟨⟨_, b1, ?_, trivial⟩, hS.trans (Stir.of_below HBX.out (fun _ => False)) (fun _ _ e => e.elim)⟩, rfl, ?_⟩
        · rw [HNO.out HP.out]; exact b2
        · intro t; rw [HNO.out HP.out, List.map_append, List.append_assoc, readL_app _ HOKP.out]; show _ ++ readL (x.1 :: t) = _; rw [readL, HP.out, List.append_nil]
      | true =>
        obtain rfl := he1 ho
        cases ho2 : atoiO (cut2 x.1) with
        | false =>
          have HP : Hid (oneP x.1 = none) := Lib.hid (by unfold oneP; rw [if_neg (by rw [hH, ho2]; simp)])
          obtain ⟨te, pe, rfl⟩ := hg2 ho2
          clear he1 he2 hg1 hg2 ho ho2
          have hv0 := boxed_stir hv (Stir.of_below HBX.out (fun _ => False)) (fun e => e)
          have hrowx := (Stir.of_below HBX.out (fun _ => False)).owns hrow (fun _ _ e => e)
          have Hq := Lib.hid (And.intro hv0 hrowx)
          clear hv hrow hv0 hrowx
          gi_wp2
          obtain ⟨b1, b2⟩ := Hq.out
          refine ⟨(KeepsOthers.of_below HBX.out).from _, ⟨⟨_, b1, ?_, trivial⟩, hS.trans (Stir.of_below HBX.out (fun _ => False)) (fun _ _ e => e.elim)⟩, rfl, ?_⟩
          · rw [HNO.out HP.out]; exact b2
          · intro t; rw [HNO.out HP.out, List.map_append, List.append_assoc, readL_app _ HOKP.out]; show _ ++ readL (x.1 :: t) = _; rw [readL, HP.out, List.append_nil]
        | true =>
          have HP : Hid (oneP x.1 = some ⟨atoiV (cut1 x.1), atoiV (cut2 x.1)⟩) := Lib.hid (by unfold oneP; rw [if_pos ⟨ho, fun _ => ho2⟩, hH]; rfl)
          obtain rfl := hg1 ho2
          clear he1 he2 hg1 hg2 ho ho2
          have hv0 := (boxed_stir hv (Stir.of_below HBX.out (fun _ => False)) (fun e => e)).alloc (.cells #[.int .i64 (atoiV (cut1 x.1)), .int .i64 (atoiV (cut2 x.1))] 31)
          have hf0 := hv0.frozen
          have hc := (boxed_stir hv (Stir.of_below HBX.out (fun _ => False)) (fun e => e)).cell
          have hrowx := (Stir.of_below HBX.out (fun _ => False)).owns hrow (fun _ _ e => e)
          have hrow0 := hrowx.kept (World.grownBy_alloc w5 (.cells #[.int .i64 (atoiV (cut1 x.1)), .int .i64 (atoiV (cut2 x.1))] 31) none) (by cases h : v.ownBlock with | none => exact .inl rfl | some _ => exact .inr (by simp))
          have hS0 : Stir T W (w5.alloc (.cells #[.int .i64 (atoiV (cut1 x.1)), .int .i64 (atoiV (cut2 x.1))] 31)) := (Stir.of_below HBX.out T).alloc _
          have hK0 : KeepsOthers W (w5.alloc (.cells #[.int .i64 (atoiV (cut1 x.1)), .int .i64 (atoiV (cut2 x.1))] 31)) := (KeepsOthers.of_below HBX.out).trans (KeepsOthers.alloc _ _)
          have hx : ∀ j u, ([.int .i64 (atoiV (cut1 x.1)), .int .i64 (atoiV (cut2 x.1))] : List Value)[j]? = some u → (w5.alloc (.cells #[.int .i64 (atoiV (cut1 x.1)), .int .i64 (atoiV (cut2 x.1))] 31)).cell? ((⟨w5.heap.size, 0, none⟩ : Addr).add j) = some u := by
            intro j u hj
            match j, hj with
            | 0, hj => cases hj; show (w5.alloc _).cell? ⟨w5.heap.size, 0, none⟩ = _; unfold World.cell?; rw [heap_alloc_new]; rfl
            | 1, hj => cases hj; show (w5.alloc _).cell? ⟨w5.heap.size, 0 + 1, none⟩ = _; unfold World.cell?; rw [heap_alloc_new]; rfl
            | j + 2, hj => simp at hj
          have hzx : w.heap.size + 4 ≤ w5.heap.size := by have := HBX.out.size; omega
          gi_wp2_with (gi_at_builtin; go_loud (refine wpListIn_append_own (w5.alloc (.cells #[.int .i64 (atoiV (cut1 x.1)), .int .i64 (atoiV (cut2 x.1))] 31)) rfl (.tmp 41) (.tmp 45) 23 rfl (w.heap.size + 4) 31 i0 (.agg #[.int .i64 0, .int .i64 0]) 2 16 Tryd.underlying23 hi hz0 hz1 hz2 rfl (by decide) _ _ _ rfl hrow0 ⟨w5.heap.size, 0, none⟩ 1 1 [.int .i64 (atoiV (cut1 x.1)), .int .i64 (atoiV (cut2 x.1))] rfl rfl hx (by intro u hu; simp at hu; rcases hu with rfl | rfl <;> rfl) (by unfold maxLen; omega) (by omega) (by simp; omega) ?_))
          intro v' w7 hown hgrow _
          obtain ⟨b1, b2, b3, b4, b5⟩ := Cav.Boxed.app hv (by decide) hrow hK0 hS0 hv0 hrow0 hTB hTb hown hgrow
          obtain ⟨a3, c3, rfl⟩ := owns_slice hown
          have m1 := b1.cell
          have m2 := b1.frozen
          have Hq := Lib.hid (And.intro b2 (And.intro b3 (And.intro b4 b5)))
          clear hown hgrow hrow b1 b2 b3 b4 b5 hc hv hv0 hrow0 hrowx hS0 hK0 hx hf0 HBX
          gi_wp2
          obtain ⟨b2, b3, b4, b5⟩ := Hq.out
          refine ⟨b4.from _, b5, ⟨⟨_, b2, ?_, trivial⟩, hS.trans b5 (fun i _ e => hTT i e)⟩, ?_⟩
          · rw [HRL.out _ HP.out]
            simpa [encSp] using b3
          · exact HOK.out (by rw [HP.out]; rfl)
  case done =>
    rintro D ys W W0 hD hxs hWe ⟨⟨⟨v, hv, hrow, _⟩, hS⟩, hok⟩ hK
    have hl : readL (cutB s) = readL (ys.map (·.1)) := by rw [show ys.map (·.1) = cutB s from hxs]
    have hsz : w1.heap.size ≤ W.heap.size := hS.size
    have hWb : Below w.heap.size w W := hb1.trans (hS.below (by omega) (by rw [hT2]; intro k h; exact h))
    have hWW : Wd W := hW.of hWb
    have hLl := readL_len (cutB s)
    have HRP : Hid (readP s = if mayB (readL (cutB s)) = true ∧ textS (readL (cutB s)) = s then (readL (cutB s), true) else ([], false)) := Lib.hid rfl
    rw [← hl] at hrow
    generalize readL (cutB s) = L at hrow hLl HRP
    have HFIN : Hid (∀ w4, Below W.heap.size W w4 → w4.heap[D]? = some (.deferred (some [])) ∧ Below w.heap.size w (w4.putObj D (.deferred none)) ∧ Kd.R k31 31 (w4.putObj D (.deferred none)) w.heap.size (fun _ => True) v L) := Lib.hid fun w4 hb => by
      have hK4 : w4.heap[D]? = some (.deferred (some [])) := (hb.block D (lt_of_heap hK)).trans hK
      refine ⟨hK4, hb1.trans (((hS.trans (Stir.of_below hb (fun _ => False)) (fun _ _ e => e.elim)).trans (stirK_b (T := T2) (w := w1) (by rw [hT2]; intro k hk; omega) w4 D _ (.deferred none) (by omega) hK4 rfl rfl) (fun _ _ e => e)).below (by omega) (by rw [hT2]; intro k h; omega)), Kd.R_lower (R_cells (((Stir.of_below hb (fun _ => False)).owns hrow (fun _ _ e => e)).kept (grownBy_putObj' w4 D _) ?_)) (by omega)⟩
      cases hv' : v.ownBlock with
      | none => exact .inl rfl
      | some k =>
        refine .inr fun e' => ?_
        obtain rfl : k = D := by simpa using e'
        obtain ⟨cells, hcells⟩ := own_typed hrow k hv'
        rw [hK] at hcells; cases hcells
    obtain ⟨A, c, rfl⟩ := owns_slice hrow
    have hrd := Kd.R_reads' (R_cells hrow)
    have hMay := may_any A c L W hrd.2.2 hrd.2.1 (by omega)
    have hTx : ∀ w', Below W.heap.size W w' → _ := fun w' hb => text_any A c L w' (Kd.C_below hrd.2.2 hb) hrd.2.1 (by omega) (hWW.of hb)
    have hc := hv.cell
    clear hv hrow hrd hS hK hl hxs hWe hok hsz hWb hWW
    gi_wp2_with fail
    refine ⟨trivial, (callsIn_wide.2 hMay).mono ?_⟩
    rintro e w3 ⟨rfl, hB3⟩
    have hc3 := (Stir.of_below hB3 (fun _ => False)).cell hc (fun e => e)
    clear hc hMay
    have HB3 := Lib.hid hB3
    cases hmb : mayB L with
    | false =>
      clear hTx hB3
      gi_wp2_with fail
      refine ⟨trivial, ?_⟩
      gi_wp2
      obtain ⟨hK4, hB4, _⟩ := HFIN.out _ HB3.out
      refine ⟨by simp, .inl ⟨_, _, rfl, run_takeDeferred hK4, ?_⟩⟩
      rw [HRP.out, if_neg (by rw [hmb]; simp)]
      exact ⟨_, results_tmp2 rfl _ _ _, _, rfl, Kd.R_nil _ _ _ _ _, hB4⟩
    | true =>
      gi_wp2_with fail
      refine ⟨trivial, (callsIn_wide.2 (hTx _ hB3)).mono ?_⟩
      rintro e w4 ⟨rfl, hB4⟩
      have hc4 := (Stir.of_below hB4 (fun _ => False)).cell hc3 (fun e => e)
      have HB4 := Lib.hid (HB3.out.trans (hB4.mono HB3.out.size))
      clear hTx hB3 hB4 hc3
      by_cases hts : textS L = s
      · have hq : ((textS L).toList == s.toList) = true := by rw [hts]; simp
        rw [hts] at hq ⊢
        gi_wp2
        obtain ⟨hK4, hB4, hR4⟩ := HFIN.out _ HB4.out
        refine ⟨by simp, .inl ⟨_, _, rfl, run_takeDeferred hK4, ?_⟩⟩
        rw [HRP.out, if_pos ⟨hmb, hts⟩]
        exact ⟨_, results_tmp2 rfl _ _ _, _, rfl, hR4, hB4⟩
      · have hq : ((textS L).toList == s.toList) = false := by rw [beq_eq_false_iff_ne]; exact fun h => hts (Go.Pk.toList_inj h)
        gi_wp2
        obtain ⟨hK4, hB4, _⟩ := HFIN.out _ HB4.out
        refine ⟨by simp, .inl ⟨_, _, rfl, run_takeDeferred hK4, ?_⟩⟩
        rw [HRP.out, if_neg (fun h => hts h.2)]
        exact ⟨_, results_tmp2 rfl _ _ _, _, rfl, Kd.R_nil _ _ _ _ _, hB4⟩
  case stop =>
    rintro D c pre W W0 hD hpre ⟨⟨⟨v, hv, hrow, _⟩, hS⟩, rfl, hst⟩ hK
    have hl : readL (cutB s) = readL (pre.map (·.1)) := by
      obtain ⟨t, ht⟩ := (show pre.map (·.1) <+: cutB s from hpre)
      rw [← ht]; exact hst t
    have hsz : w1.heap.size ≤ W.heap.size := hS.size
    have hWb : Below w.heap.size w W := hb1.trans (hS.below (by omega) (by rw [hT2]; intro k h; exact h))
    have hWW : Wd W := hW.of hWb
    have hLl := readL_len (cutB s)
    have HRP : Hid (readP s = if mayB (readL (cutB s)) = true ∧ textS (readL (cutB s)) = s then (readL (cutB s), true) else ([], false)) := Lib.hid rfl
    rw [← hl] at hrow
    generalize readL (cutB s) = L at hrow hLl HRP
    have HFIN : Hid (∀ w4, Below W.heap.size W w4 → w4.heap[D]? = some (.deferred (some [])) ∧ Below w.heap.size w (w4.putObj D (.deferred none)) ∧ Kd.R k31 31 (w4.putObj D (.deferred none)) w.heap.size (fun _ => True) v L) := Lib.hid fun w4 hb => by
      have hK4 : w4.heap[D]? = some (.deferred (some [])) := (hb.block D (lt_of_heap hK)).trans hK
      refine ⟨hK4, hb1.trans (((hS.trans (Stir.of_below hb (fun _ => False)) (fun _ _ e => e.elim)).trans (stirK_b (T := T2) (w := w1) (by rw [hT2]; intro k hk; omega) w4 D _ (.deferred none) (by omega) hK4 rfl rfl) (fun _ _ e => e)).below (by omega) (by rw [hT2]; intro k h; omega)), Kd.R_lower (R_cells (((Stir.of_below hb (fun _ => False)).owns hrow (fun _ _ e => e)).kept (grownBy_putObj' w4 D _) ?_)) (by omega)⟩
      cases hv' : v.ownBlock with
      | none => exact .inl rfl
      | some k =>
        refine .inr fun e' => ?_
        obtain rfl : k = D := by simpa using e'
        obtain ⟨cells, hcells⟩ := own_typed hrow k hv'
        rw [hK] at hcells; cases hcells
    obtain ⟨A, c, rfl⟩ := owns_slice hrow
    have hrd := Kd.R_reads' (R_cells hrow)
    have hMay := may_any A c L W hrd.2.2 hrd.2.1 (by omega)
    have hTx : ∀ w', Below W.heap.size W w' → _ := fun w' hb => text_any A c L w' (Kd.C_below hrd.2.2 hb) hrd.2.1 (by omega) (hWW.of hb)
    have hc := hv.cell
    clear hv hrow hrd hS hK hl hpre hst hsz hWb hWW
    gi_wp2_with fail
    refine ⟨trivial, (callsIn_wide.2 hMay).mono ?_⟩
    rintro e w3 ⟨rfl, hB3⟩
    have hc3 := (Stir.of_below hB3 (fun _ => False)).cell hc (fun e => e)
    clear hc hMay
    have HB3 := Lib.hid hB3
    cases hmb : mayB L with
    | false =>
      clear hTx hB3
      gi_wp2_with fail
      refine ⟨trivial, ?_⟩
      gi_wp2
      obtain ⟨hK4, hB4, _⟩ := HFIN.out _ HB3.out
      refine ⟨by simp, .inl ⟨_, _, rfl, run_takeDeferred hK4, ?_⟩⟩
      rw [HRP.out, if_neg (by rw [hmb]; simp)]
      exact ⟨_, results_tmp2 rfl _ _ _, _, rfl, Kd.R_nil _ _ _ _ _, hB4⟩
    | true =>
      gi_wp2_with fail
      refine ⟨trivial, (callsIn_wide.2 (hTx _ hB3)).mono ?_⟩
      rintro e w4 ⟨rfl, hB4⟩
      have hc4 := (Stir.of_below hB4 (fun _ => False)).cell hc3 (fun e => e)
      have HB4 := Lib.hid (HB3.out.trans (hB4.mono HB3.out.size))
      clear hTx hB3 hB4 hc3
      by_cases hts : textS L = s
      · have hq : ((textS L).toList == s.toList) = true := by rw [hts]; simp
        rw [hts] at hq ⊢
        gi_wp2
        obtain ⟨hK4, hB4, hR4⟩ := HFIN.out _ HB4.out
        refine ⟨by simp, .inl ⟨_, _, rfl, run_takeDeferred hK4, ?_⟩⟩
        rw [HRP.out, if_pos ⟨hmb, hts⟩]
        exact ⟨_, results_tmp2 rfl _ _ _, _, rfl, hR4, hB4⟩
      · have hq : ((textS L).toList == s.toList) = false := by rw [beq_eq_false_iff_ne]; exact fun h => hts (Go.Pk.toList_inj h)
        gi_wp2
        obtain ⟨hK4, hB4, _⟩ := HFIN.out _ HB4.out
        refine ⟨by simp, .inl ⟨_, _, rfl, run_takeDeferred hK4, ?_⟩⟩
        rw [HRP.out, if_neg (fun h => hts h.2)]
        exact ⟨_, results_tmp2 rfl _ _ _, _, rfl, Kd.R_nil _ _ _ _ _, hB4⟩
end Go.Proofs.YtnlakdpfkgjdaaaDoor.G

/- spans.Read in the print's words. Conditions: a bound on the text's length; strconv's variables are as they are laid. -/
namespace Go.Proofs.YtnlakdpfkgjdaaaDoor.G
open Go.RowKit Go.Cav Go.Proofs.YtnlakdpfkgjdaaaDoorW.PrintWords Go.Proofs.YtnlakdpfkgjdaaaDoorW.PrintLast Go.Proofs.YtnlakdpfkgjdaaaDoorW.PrintMore
def spans_Read.f (a0 : ByteArray) : Option ((List S31) × Bool) := if a0.size ≤ 1000000 then some (readP a0) else none
theorem spans_Read.calls (a0 : ByteArray) (r1 : List S31) (r2 : Bool) (w : World) (h : spans_Read.f a0 = some (r1, r2)) (hWd_ : Wd w) :
    Calls Tryd.prog 10 #[.string a0] w fun e w' => ∃ v0_ : Value, e = .returned (.tuple #[v0_, .bool r2]) ∧ Kd.R k31 31 w' w.heap.size (fun _ => True) v0_ r1 ∧ Below w.heap.size w w' := by
  unfold spans_Read.f at h
  split at h
  case isFalse => cases h
  case isTrue hb =>
    have h2 := Option.some.inj h
    have h3 := read_any a0 hb w hWd_
    rw [h2] at h3
    exact h3
end Go.Proofs.YtnlakdpfkgjdaaaDoor.G

/- What functions of the translation come to, and their calls' proofs; by a program of mine over the kit's print, with contracts given by hand beside. Conditions: where a plain function tells none, nothing is said. -/
namespace Go.Proofs.YtnlakdpfkgjdaaaDoor.G
open Go.RowKit Go.Proofs.YtnlakdpfkgjdaaaDoorW.PrintWords Go.Proofs.YtnlakdpfkgjdaaaDoorW.PrintLast Go.Proofs.YtnlakdpfkgjdaaaDoorW.PrintMore
attribute [local go_sem] max2_int min2_int max_two min_two max_three min_three max_four min_four   -- for this text's walks alone
set_option linter.unusedVariables false
set_option linter.unusedSimpArgs false

/-! ### spans_Count: function 20 -/
def spans_Count.l0 : Nat → Int → List (S31) → Int → Int → Option (Int)
 | 0, _, _, _, _ => none
 | k + 1, x3, x7, x8, x9 => if x9 < x8 then (if 0 ≤ x9 then (if x9 < (x7.length : Int) then (spans_Count.l0 k (wrap64 (x3 + (wrap64 ((wrap64 (((rd_T31 x7 x9).f1) - ((rd_T31 x7 x9).f0))) + 1)))) x7 x8 (wrap64 (x9 + 1))) else (none)) else (none)) else (some x3)
def spans_Count.f (k : Nat) (l0 : List (S31)) : Option (Int) := (spans_Norm.f k l0).bind fun t101 => (spans_Count.l0 k 0 t101 (t101.length : Int) 0)
theorem spans_Count.mono_l : ∀ k, (∀ y0 y1 y2 y3, LeO (spans_Count.l0 k y0 y1 y2 y3) (spans_Count.l0 (k + 1) y0 y1 y2 y3))
 | 0 => fun _ _ _ _ r h => by simp [spans_Count.l0] at h
 | k + 1 => by
  have ih0 := spans_Count.mono_l k
  ·intro y0 y1 y2 y3
   unfold spans_Count.l0
   repeat' first
   | (with_reducible exact ih0 _ _ _ _)
   | (with_reducible exact spans_Norm.mono _ _)
   | (with_reducible exact LeO.refl _)
   | (with_reducible exact LeO.none _)
   | (with_reducible refine LeO.ite ?_ ?_)
   | (with_reducible refine LeO.bind ?_ (fun _ => ?_))
   | exact ih0 _ _ _ _
   | exact spans_Norm.mono _ _
   | exact LeO.none _
   | refine LeO.ite ?_ ?_
   | refine LeO.bind ?_ (fun _ => ?_)
theorem spans_Count.mono : ∀ a0 k, LeO (spans_Count.f k a0) (spans_Count.f (k + 1) a0) := by
 intro a0 k
 have ih0 := spans_Count.mono_l k
 unfold spans_Count.f
 repeat' first
  | (with_reducible exact ih0 _ _ _ _)
  | (with_reducible exact spans_Norm.mono _ _)
  | (with_reducible exact LeO.refl _)
  | (with_reducible exact LeO.none _)
  | (with_reducible refine LeO.ite ?_ ?_)
  | (with_reducible refine LeO.bind ?_ (fun _ => ?_))
  | exact ih0 _ _ _ _
  | exact spans_Norm.mono _ _
  | exact LeO.none _
  | refine LeO.ite ?_ ?_
  | refine LeO.bind ?_ (fun _ => ?_)
set_option maxHeartbeats 8000000 in
set_option maxRecDepth 100000 in
theorem spans_Count.calls (k : Nat) (A0 : Option Addr) (c0 : Nat) (l0 : List (S31)) (r : Int) (w : World) (hr0 : Kd.C k31 w A0 l0.length l0) (hc0 : l0.length ≤ c0) (h : spans_Count.f k l0 = some r) :
 Calls Tryd.prog 20 #[.slice A0 l0.length c0] w fun e w' => e = .returned (.int .i64 r) ∧ Below w.heap.size w w' := by
 have hu31 := Tryd.underlying31
 have HR0 := Aside0.mk hr0
 have HC0 := Aside0.mk hc0
 clear hr0 hc0
 have HB := Aside0.mk (Below.refl w.heap.size w)
 have H : ((spans_Norm.f k l0).bind fun t101 => (spans_Count.l0 k 0 t101 (t101.length : Int) 0)) = some r := h
 clear h
 replace H := Option.bind_eq_some_iff.mp H
 obtain ⟨t101, A20, H⟩ := H
 replace H : (spans_Count.l0 k 0 t101 (t101.length : Int) 0) = some r := H
 have A2 := Aside0.mk A20
 clear A20
 have H' := Aside0.mk H
 clear H
 go_enter Tryd.func20, Tryd.ntmps20
 go_wp2_with (first | ((with_reducible refine gate_callee (f := 16) rfl ?_); refine goesL_ (some 7) rfl rfl Tryd.func16 (by kernel_rfl) rfl #[.slice A0 l0.length c0] rfl qM_ ?_; (with_reducible refine (spans_Norm.calls k _ _ l0 t101 _ ?side1 ?side2 A2.out).mono ?_); (case side1 => exact qC_ (HR0.out)); (case side2 => exact HC0.out); rintro e w3 ⟨v102, rfl, ho0, hb⟩; refine ⟨_, rfl, ?_⟩; have n0_ := Aside0.mk (Kd.R_lower ho0 (below_size (qdb35_ HB.out))); have n1_ := Aside0.mk (below_step (qdb35_ HB.out) hb); clear HB; have HO103 := n0_; have HB := n1_; clear n0_ n1_; (try clear hb); (try clear hb2); (try clear hk); (try clear hi); (try clear ho0); obtain ⟨Ao4, co4, eo4⟩ := Kd.R_slice HO103.out; subst eo4))
 go_loopg [3, 9] k (fun kq v3 v9 w' => ∃ (x3_1 : Int) (x9_1 : Int), v3 = .int .i64 x3_1 ∧ v9 = .int .i64 x9_1 ∧ Aside0 (spans_Count.l0 kq x3_1 t101 (t101.length : Int) x9_1 = some r) ∧ Aside0 (kq ≤ k) ∧ Aside0 (Kd.R k31 31 w' w.heap.size (fun _ => True) (.slice Ao4 t101.length co4) t101) ∧ Aside0 (Below w.heap.size w w'))
 case atStart => exact ⟨(0), (0), (by first | rfl | (simp; done) | (simp [*]; done)), (by first | rfl | (simp; done) | (simp [*]; done)), H', ⟨Nat.le_refl _⟩, ⟨by (with_reducible repeat (first | apply Kd.R_alloc | apply Kd.R_drewN | apply Kd.R_drew)); exact HO103.out⟩, ⟨(qdb35_ HB.out)⟩⟩
 case round =>
  clear H'
  try clear c1
  try clear c2
  try clear p2
  obtain ⟨x3_1, x9_1, rfl, rfl, HA, HK1, HO_7, HB⟩ := hrel
  cases gk with
  | zero => exact absurd HA.out (by simp [spans_Count.l0])
  | succ k1 =>
   have H := HA.out
   clear HA
   simp only [spans_Count.l0] at H
   by_cases c5 : x9_1 < (t101.length : Int)
   ·rw [if_pos c5] at H
    have c5b0 : decide (x9_1 < (t101.length : Int)) = true := decide_eq_true c5
    clear c5
    by_cases c6 : 0 ≤ x9_1
    ·rw [if_pos c6] at H
     have c6b0 : decide (0 ≤ x9_1) = true := decide_eq_true c6
     clear c6
     by_cases c7 : x9_1 < (t101.length : Int)
     ·rw [if_pos c7] at H
      have c7b0 : decide (x9_1 < (t101.length : Int)) = true := decide_eq_true c7
      clear c7
      have H' := Aside0.mk H
      clear H
      have p104 : 0 ≤ (x9_1 : Int) := of_decide_eq_true (by first | (with_reducible assumption) | assumption)
      have q104 : x9_1 < (t101.length : Int) := of_decide_eq_true (by first | (with_reducible assumption) | assumption)
      obtain ⟨ad104, e104, hx104_0, hx104_1⟩ := at_T31 (Kd.R_reads' HO_7.out).2.2 x9_1 p104 q104
      cases e104
      replace p104 := eq_true p104
      replace q104 := eq_true q104
      go_wp2_with (first | ((with_reducible refine gate_dst (N := 5) rfl ?_); refine box_event ?hg (N := 5) ?hd (cs := #[.int .i64 0, .int .i64 0]) (t := 31) ?hr ?_; (case hd => rfl); (case hg => rfl); (case hr => first | (go_simp; done) | (go_simp; rfl)); intro gb105 hg w8 hbox hb; have n0_ := Aside0.mk (Kd.R_below (Kd.R_elderB (q8524_ HO_7.out) gb105 (Nat.le_of_eq hg.symm)) hb); have n1_ := Aside0.mk (below_step (qdb35_ HB.out) hb); have n2_ := Aside0.mk (hbox); have n3_ := Aside0.mk ((by rw [hg]; exact (below_size (qdb35_ HB.out)) : w.heap.size ≤ gb105)); have n4_ := Aside0.mk ((by rw [hg]; exact (below_size (qdb35_ HB.out)) : w.heap.size ≤ gb105)); clear HO_7; clear HB; have HO_7 := n0_; have HB := n1_; have BK105 := n2_; have GW105 := n3_; have GE105 := n4_; clear n0_ n1_ n2_ n3_ n4_; clear hb hbox hg; have hcz9_0 : w8.cell? ⟨gb105, 0, none⟩ = some (.int .i64 0) := (blk_cell BK105.out 0).trans rfl; have hcz9_1 : w8.cell? ⟨gb105, 1, none⟩ = some (.int .i64 0) := (blk_cell BK105.out 1).trans rfl; have hfz9_0 := blk_frozen BK105.out 0; have hfz9_1 := blk_frozen BK105.out 1))
      go_roundg k1
      case measure => have := HK1.out; omega
      case rel => exact ⟨(wrap64 (x3_1 + (wrap64 ((wrap64 (((rd_T31 t101 x9_1).f1) - ((rd_T31 t101 x9_1).f0))) + 1)))), (wrap64 (x9_1 + 1)), (by first | rfl | (simp; done) | (simp [*]; done)), (by first | rfl | (simp; done) | (simp [*]; done)), H', ⟨by have := HK1.out; omega⟩, ⟨by (with_reducible repeat (first | apply Kd.R_alloc | apply Kd.R_drewN | apply Kd.R_drew)); exact Kd.R_mono (Kd.R_far (p := ⟨gb105, 1, none⟩) (Kd.R_far (p := ⟨gb105, 0, none⟩) (Kd.R_mono HO_7.out (fun k_ hk => (⟨hk, hk.2⟩ : _ ∧ k_ ≠ gb105))) (fun _ hk => hk.2) (.int .i64 ((rd_T31 t101 x9_1).f0))) (fun _ hk => hk.2) (.int .i64 ((rd_T31 t101 x9_1).f1))) (fun _ hk => trivial)⟩, ⟨(qed14_ HB.out GE105.out)⟩⟩
     ·rw [if_neg c7] at H
      exact absurd H (by simp)
    ·rw [if_neg c6] at H
     exact absurd H (by simp)
   ·rw [if_neg c5] at H
    have c5b0 : decide (x9_1 < (t101.length : Int)) = false := decide_eq_false c5
    clear c5
    obtain rfl := Option.some.inj H
    go_wp2
    go_ret
    exact ⟨by first | rfl | (simp [errW_none, errW_some] <;> rfl) | (simp [*, errW_none, errW_some] <;> rfl), (qdb35_ HB.out)⟩

/-! ### caravanlaw2_awake: function 9 -/
def caravanlaw2_awake.f (k : Nat)  : Option (Bool) := (spans_Read.f (⟨#[48, 45, 53, 44, 55]⟩ : ByteArray)).bind fun bt106 => (if bt106.2 = true then (if (bt106.1.length : Int) = 2 then ((spans_Text.f k (([(⟨7, 7⟩ : S31), (⟨0, 5⟩ : S31)] : List (S31)))).bind fun t113 => (if t113.toList = ([48, 45, 53, 44, 55] : List UInt8) then ((spans_Count.f k bt106.1).bind fun t114 => (some (t114 == 7))) else (some false))) else (some false)) else (some false))
theorem caravanlaw2_awake.mono : ∀ k, LeO (caravanlaw2_awake.f k ) (caravanlaw2_awake.f (k + 1) ) := by
 intro  k
 unfold caravanlaw2_awake.f
 repeat' first
  | (with_reducible exact spans_Count.mono _ _)
  | (with_reducible exact spans_Text.mono _ _)
  | (with_reducible exact LeO.refl _)
  | (with_reducible exact LeO.none _)
  | (with_reducible refine LeO.ite ?_ ?_)
  | (with_reducible refine LeO.bind ?_ (fun _ => ?_))
  | exact spans_Count.mono _ _
  | exact spans_Text.mono _ _
  | exact LeO.none _
  | refine LeO.ite ?_ ?_
  | refine LeO.bind ?_ (fun _ => ?_)
set_option maxHeartbeats 8000000 in
set_option maxRecDepth 100000 in
theorem caravanlaw2_awake.calls (k : Nat)  (r : Bool) (w : World) (h : caravanlaw2_awake.f k  = some r) (hWd_ : Wd w) :
 Calls Tryd.prog 9 #[] w fun e w' => e = .returned (.bool r) ∧ Below w.heap.size w w' := by
 have hu31 := Tryd.underlying31
 have HB := Aside0.mk (Below.refl w.heap.size w)
 have H : ((spans_Read.f (⟨#[48, 45, 53, 44, 55]⟩ : ByteArray)).bind fun bt106 => (if bt106.2 = true then (if (bt106.1.length : Int) = 2 then ((spans_Text.f k (([(⟨7, 7⟩ : S31), (⟨0, 5⟩ : S31)] : List (S31)))).bind fun t113 => (if t113.toList = ([48, 45, 53, 44, 55] : List UInt8) then ((spans_Count.f k bt106.1).bind fun t114 => (some (t114 == 7))) else (some false))) else (some false)) else (some false))) = some r := h
 clear h
 replace H := Option.bind_eq_some_iff.mp H
 obtain ⟨⟨t106, t107⟩, A10, H⟩ := H
 replace H : (if t107 = true then (if (t106.length : Int) = 2 then ((spans_Text.f k (([(⟨7, 7⟩ : S31), (⟨0, 5⟩ : S31)] : List (S31)))).bind fun t113 => (if t113.toList = ([48, 45, 53, 44, 55] : List UInt8) then ((spans_Count.f k t106).bind fun t114 => (some (t114 == 7))) else (some false))) else (some false)) else (some false)) = some r := H
 have A1 := Aside0.mk A10
 clear A10
 by_cases c2 : t107 = true
 ·subst c2
  have H1 : (if (t106.length : Int) = 2 then ((spans_Text.f k (([(⟨7, 7⟩ : S31), (⟨0, 5⟩ : S31)] : List (S31)))).bind fun t113 => (if t113.toList = ([48, 45, 53, 44, 55] : List UInt8) then ((spans_Count.f k t106).bind fun t114 => (some (t114 == 7))) else (some false))) else (some false)) = some r := by rw [if_pos rfl] at H; exact H
  clear H
  have H := H1
  clear H1
  by_cases c3 : (t106.length : Int) = 2
  ·rw [if_pos c3] at H
   have c3b0 : ((t106.length : Int) == 2) = true := beq_iff_eq.mpr c3
   have c3b1 : ((t106.length : Int) != 2) = false := bne_eq_false_iff_eq.mpr c3
   clear c3
   obtain ⟨y110, hy110⟩ : ∃ y_ : List (S31), y_ = (([(⟨7, 7⟩ : S31), (⟨0, 5⟩ : S31)] : List (S31))) := ⟨_, rfl⟩
   replace H : ((spans_Text.f k y110).bind fun t113 => (if t113.toList = ([48, 45, 53, 44, 55] : List UInt8) then ((spans_Count.f k t106).bind fun t114 => (some (t114 == 7))) else (some false))) = some r := by first | (rw [hy110]; with_reducible exact H) | (have H2_ := (Option.bind_some _ _).symm.trans H; rw [hy110]; with_reducible exact H2_) | (have H2_ := (Option.bind_some _ _).symm.trans H; with_reducible exact H2_) | with_reducible exact H | (rw [hy110]; exact H) | exact H
   have Ny110 := Aside0.mk hy110
   clear hy110
   replace H := Option.bind_eq_some_iff.mp H
   obtain ⟨t113, A40, H⟩ := H
   replace H : (if t113.toList = ([48, 45, 53, 44, 55] : List UInt8) then ((spans_Count.f k t106).bind fun t114 => (some (t114 == 7))) else (some false)) = some r := H
   have A4 := Aside0.mk A40
   clear A40
   by_cases c5 : t113.toList = ([48, 45, 53, 44, 55] : List UInt8)
   ·rw [if_pos c5] at H
    have c5b0 : (t113.toList == ([48, 45, 53, 44, 55] : List UInt8)) = true := beq_iff_eq.mpr c5
    have c5b1 : (t113.toList != ([48, 45, 53, 44, 55] : List UInt8)) = false := bne_eq_false_iff_eq.mpr c5
    clear c5
    replace H := Option.bind_eq_some_iff.mp H
    obtain ⟨t114, A60, H⟩ := H
    replace H : (some (t114 == 7)) = some r := H
    have A6 := Aside0.mk A60
    clear A60
    obtain rfl := Option.some.inj H
    go_enter Tryd.func9, Tryd.ntmps9
    go_wp2_with (first | ((with_reducible refine gate_callee (f := 10) rfl ?_); refine goesL_ (some 4) rfl rfl Tryd.func10 (by kernel_rfl) rfl #[.string (⟨#[48, 45, 53, 44, 55]⟩ : ByteArray)] rfl qM_ ?_; (with_reducible refine (spans_Read.calls (⟨#[48, 45, 53, 44, 55]⟩ : ByteArray) t106 true _ A1.out (Wd.of hWd_ (qdb35_ HB.out))).mono ?_); rintro e w7 ⟨v108, rfl, ho0, hb⟩; refine ⟨_, rfl, ?_⟩; have n0_ := Aside0.mk (Kd.R_lower ho0 (below_size (qdb35_ HB.out))); have n1_ := Aside0.mk (below_step (qdb35_ HB.out) hb); clear HB; have HO109 := n0_; have HB := n1_; clear n0_ n1_; (try clear hb); (try clear hb2); (try clear hk); (try clear hi); (try clear ho0); obtain ⟨Ao8, co8, eo8⟩ := Kd.R_slice HO109.out; subst eo8) | ((with_reducible refine gate_dst (N := 16) rfl ?_); (try (refine gate_guard (by rfl) ?_; dsimp only)); refine Kd.R_lit k31 _ 31 ?hg (N := 16) ?hd (xs := ([(⟨7, 7⟩ : S31), (⟨0, 5⟩ : S31)] : List (S31))) (inner := [.int .i64 7, .int .i64 7, .int .i64 0, .int .i64 5]) (ok := fun _ => True) (okp := fun _ => True) ?hr ?hp (fun _ hk => hk) trivial (Below.refl _ _) (Nat.le_refl _) (by simp) ?_; (case hd => rfl); (case hg => rfl); (case hr => first | (go_simp; done) | (go_simp; rfl)); (case hp => exact (Reps.c2 (show Kd.M k31 _ _ _ (⟨7, 7⟩ : S31) [.int .i64 7, .int .i64 7] from (k31_mkM _ _ _ (⟨7, 7⟩ : S31) )) (Reps.c2 (show Kd.M k31 _ _ _ (⟨0, 5⟩ : S31) [.int .i64 0, .int .i64 5] from (k31_mkM _ _ _ (⟨0, 5⟩ : S31) )) (Reps.none _ _)))); intro v111 w9 ho10 hb hg_ hnew_; clear hg_ hnew_; (first | rw [← Ny110.out] at ho10 | (simp only [Int.reduceToNat] at ho10; rw [← Ny110.out] at ho10)); have n0_ := Aside0.mk (Kd.R_elder' (q8524_ HO109.out) (Kd.R_base ho10) hb); have n1_ := Aside0.mk (Kd.R_lower (Kd.R_new' ho10 (Kd.R_lt (q8524_ HO109.out))) (below_size (qdb35_ HB.out))); have n2_ := Aside0.mk (below_step (qdb35_ HB.out) hb); clear HO109; clear HB; have HO109 := n0_; have HO112 := n1_; have HB := n2_; clear n0_ n1_ n2_; clear hb ho10; obtain ⟨Ao11, co11, eo11⟩ := Kd.R_slice HO112.out; subst eo11) | (go_at_call 22; (with_reducible refine (spans_Text.calls k _ _ y110 t113 _ ?side1 ?side2 A4.out (Wd.of hWd_ (qdb35_ HB.out))).mono ?_); (case side1 => exact qC_ ((Kd.R_reads' HO112.out).2.2)); (case side2 => exact (Kd.R_reads' HO112.out).2.1); rintro e w12 ⟨rfl, hb⟩; have n0_ := Aside0.mk (Kd.R_below (q8524_ HO109.out) hb); have n1_ := Aside0.mk (Kd.R_below (q8524_ HO112.out) hb); have n2_ := Aside0.mk (below_step (qdb35_ HB.out) hb); clear HO109; clear HO112; clear HB; have HO109 := n0_; have HO112 := n1_; have HB := n2_; clear n0_ n1_ n2_; (try clear hb); (try clear hb2); (try clear hk); (try clear hi)) | (go_at_call 20; (with_reducible refine (spans_Count.calls k _ _ t106 t114 _ ?side1 ?side2 A6.out).mono ?_); (case side1 => exact qC_ ((Kd.R_reads' HO109.out).2.2)); (case side2 => exact (Kd.R_reads' HO109.out).2.1); rintro e w13 ⟨rfl, hb⟩; have n0_ := Aside0.mk (Kd.R_below (q8524_ HO109.out) hb); have n1_ := Aside0.mk (Kd.R_below (q8524_ HO112.out) hb); have n2_ := Aside0.mk (below_step (qdb35_ HB.out) hb); clear HO109; clear HO112; clear HB; have HO109 := n0_; have HO112 := n1_; have HB := n2_; clear n0_ n1_ n2_; (try clear hb); (try clear hb2); (try clear hk); (try clear hi)))
    go_ret
    exact ⟨by first | rfl | (simp [errW_none, errW_some] <;> rfl) | (simp [*, errW_none, errW_some] <;> rfl), (qdb35_ HB.out)⟩
   ·rw [if_neg c5] at H
    have c5b0 : (t113.toList == ([48, 45, 53, 44, 55] : List UInt8)) = false := beq_eq_false_iff_ne.mpr c5
    have c5b1 : (t113.toList != ([48, 45, 53, 44, 55] : List UInt8)) = true := bne_iff_ne.mpr c5
    obtain rfl := Option.some.inj H
    go_enter Tryd.func9, Tryd.ntmps9
    go_wp2_with (first | ((with_reducible refine gate_callee (f := 10) rfl ?_); refine goesL_ (some 4) rfl rfl Tryd.func10 (by kernel_rfl) rfl #[.string (⟨#[48, 45, 53, 44, 55]⟩ : ByteArray)] rfl qM_ ?_; (with_reducible refine (spans_Read.calls (⟨#[48, 45, 53, 44, 55]⟩ : ByteArray) t106 true _ A1.out (Wd.of hWd_ (qdb35_ HB.out))).mono ?_); rintro e w14 ⟨v108, rfl, ho0, hb⟩; refine ⟨_, rfl, ?_⟩; have n0_ := Aside0.mk (Kd.R_lower ho0 (below_size (qdb35_ HB.out))); have n1_ := Aside0.mk (below_step (qdb35_ HB.out) hb); clear HB; have HO109 := n0_; have HB := n1_; clear n0_ n1_; (try clear hb); (try clear hb2); (try clear hk); (try clear hi); (try clear ho0); obtain ⟨Ao15, co15, eo15⟩ := Kd.R_slice HO109.out; subst eo15) | ((with_reducible refine gate_dst (N := 16) rfl ?_); (try (refine gate_guard (by rfl) ?_; dsimp only)); refine Kd.R_lit k31 _ 31 ?hg (N := 16) ?hd (xs := ([(⟨7, 7⟩ : S31), (⟨0, 5⟩ : S31)] : List (S31))) (inner := [.int .i64 7, .int .i64 7, .int .i64 0, .int .i64 5]) (ok := fun _ => True) (okp := fun _ => True) ?hr ?hp (fun _ hk => hk) trivial (Below.refl _ _) (Nat.le_refl _) (by simp) ?_; (case hd => rfl); (case hg => rfl); (case hr => first | (go_simp; done) | (go_simp; rfl)); (case hp => exact (Reps.c2 (show Kd.M k31 _ _ _ (⟨7, 7⟩ : S31) [.int .i64 7, .int .i64 7] from (k31_mkM _ _ _ (⟨7, 7⟩ : S31) )) (Reps.c2 (show Kd.M k31 _ _ _ (⟨0, 5⟩ : S31) [.int .i64 0, .int .i64 5] from (k31_mkM _ _ _ (⟨0, 5⟩ : S31) )) (Reps.none _ _)))); intro v111 w16 ho17 hb hg_ hnew_; clear hg_ hnew_; (first | rw [← Ny110.out] at ho17 | (simp only [Int.reduceToNat] at ho17; rw [← Ny110.out] at ho17)); have n0_ := Aside0.mk (Kd.R_elder' (q8524_ HO109.out) (Kd.R_base ho17) hb); have n1_ := Aside0.mk (Kd.R_lower (Kd.R_new' ho17 (Kd.R_lt (q8524_ HO109.out))) (below_size (qdb35_ HB.out))); have n2_ := Aside0.mk (below_step (qdb35_ HB.out) hb); clear HO109; clear HB; have HO109 := n0_; have HO112 := n1_; have HB := n2_; clear n0_ n1_ n2_; clear hb ho17; obtain ⟨Ao18, co18, eo18⟩ := Kd.R_slice HO112.out; subst eo18) | (go_at_call 22; (with_reducible refine (spans_Text.calls k _ _ y110 t113 _ ?side1 ?side2 A4.out (Wd.of hWd_ (qdb35_ HB.out))).mono ?_); (case side1 => exact qC_ ((Kd.R_reads' HO112.out).2.2)); (case side2 => exact (Kd.R_reads' HO112.out).2.1); rintro e w19 ⟨rfl, hb⟩; have n0_ := Aside0.mk (Kd.R_below (q8524_ HO109.out) hb); have n1_ := Aside0.mk (Kd.R_below (q8524_ HO112.out) hb); have n2_ := Aside0.mk (below_step (qdb35_ HB.out) hb); clear HO109; clear HO112; clear HB; have HO109 := n0_; have HO112 := n1_; have HB := n2_; clear n0_ n1_ n2_; (try clear hb); (try clear hb2); (try clear hk); (try clear hi)))
    go_ret
    exact ⟨by first | rfl | (simp [errW_none, errW_some] <;> rfl) | (simp [*, errW_none, errW_some] <;> rfl), (qdb35_ HB.out)⟩
  ·rw [if_neg c3] at H
   have c3b0 : ((t106.length : Int) == 2) = false := beq_eq_false_iff_ne.mpr c3
   have c3b1 : ((t106.length : Int) != 2) = true := bne_iff_ne.mpr c3
   obtain rfl := Option.some.inj H
   go_enter Tryd.func9, Tryd.ntmps9
   go_wp2_with (first | ((with_reducible refine gate_callee (f := 10) rfl ?_); refine goesL_ (some 4) rfl rfl Tryd.func10 (by kernel_rfl) rfl #[.string (⟨#[48, 45, 53, 44, 55]⟩ : ByteArray)] rfl qM_ ?_; (with_reducible refine (spans_Read.calls (⟨#[48, 45, 53, 44, 55]⟩ : ByteArray) t106 true _ A1.out (Wd.of hWd_ (qdb35_ HB.out))).mono ?_); rintro e w20 ⟨v108, rfl, ho0, hb⟩; refine ⟨_, rfl, ?_⟩; have n0_ := Aside0.mk (Kd.R_lower ho0 (below_size (qdb35_ HB.out))); have n1_ := Aside0.mk (below_step (qdb35_ HB.out) hb); clear HB; have HO109 := n0_; have HB := n1_; clear n0_ n1_; (try clear hb); (try clear hb2); (try clear hk); (try clear hi); (try clear ho0); obtain ⟨Ao21, co21, eo21⟩ := Kd.R_slice HO109.out; subst eo21))
   go_ret
   exact ⟨by first | rfl | (simp [errW_none, errW_some] <;> rfl) | (simp [*, errW_none, errW_some] <;> rfl), (qdb35_ HB.out)⟩
 ·replace c2 := Bool.eq_false_iff.mpr c2
  subst c2
  have H1 : (some false) = some r := by rw [if_neg (show ¬ (false = true) by decide)] at H; exact H
  clear H
  have H := H1
  clear H1
  obtain rfl := Option.some.inj H
  go_enter Tryd.func9, Tryd.ntmps9
  go_wp2_with (first | ((with_reducible refine gate_callee (f := 10) rfl ?_); refine goesL_ (some 4) rfl rfl Tryd.func10 (by kernel_rfl) rfl #[.string (⟨#[48, 45, 53, 44, 55]⟩ : ByteArray)] rfl qM_ ?_; (with_reducible refine (spans_Read.calls (⟨#[48, 45, 53, 44, 55]⟩ : ByteArray) t106 false _ A1.out (Wd.of hWd_ (qdb35_ HB.out))).mono ?_); rintro e w22 ⟨v108, rfl, ho0, hb⟩; refine ⟨_, rfl, ?_⟩; have n0_ := Aside0.mk (Kd.R_lower ho0 (below_size (qdb35_ HB.out))); have n1_ := Aside0.mk (below_step (qdb35_ HB.out) hb); clear HB; have HO109 := n0_; have HB := n1_; clear n0_ n1_; (try clear hb); (try clear hb2); (try clear hk); (try clear hi); (try clear ho0)))
  go_ret
  exact ⟨by first | rfl | (simp [errW_none, errW_some] <;> rfl) | (simp [*, errW_none, errW_some] <;> rfl), (qdb35_ HB.out)⟩

/-! ### caravanref1_MaySpans: function 15 -/
def caravanref1_MaySpans.l0 : Nat → List (S31) → Int → Option (Bool)
 | 0, _, _ => none
 | k + 1, x0, x3 => if x3 < (x0.length : Int) then (if 0 ≤ x3 then (if ((rd_T31 x0 x3).f0) < 0 then (some false) else (if ((rd_T31 x0 x3).f1) < ((rd_T31 x0 x3).f0) then (some false) else (if ((rd_T31 x0 x3).f1) ≥ 16384 then (some false) else (if x3 > 0 then (if 0 ≤ (wrap64 (x3 - 1)) then (if (wrap64 (x3 - 1)) < (x0.length : Int) then (if ((rd_T31 x0 x3).f0) ≤ (wrap64 (((rd_T31 x0 (wrap64 (x3 - 1))).f1) + 1)) then (some false) else (caravanref1_MaySpans.l0 k x0 (wrap64 (x3 + 1)))) else (none)) else (none)) else (caravanref1_MaySpans.l0 k x0 (wrap64 (x3 + 1))))))) else (none)) else (some true)
def caravanref1_MaySpans.f (k : Nat) (l0 : List (S31)) : Option (Bool) := caravanref1_MaySpans.l0 k l0 0
theorem caravanref1_MaySpans.mono_l : ∀ k, (∀ y0 y1, LeO (caravanref1_MaySpans.l0 k y0 y1) (caravanref1_MaySpans.l0 (k + 1) y0 y1))
 | 0 => fun _ _ r h => by simp [caravanref1_MaySpans.l0] at h
 | k + 1 => by
  have ih0 := caravanref1_MaySpans.mono_l k
  ·intro y0 y1
   unfold caravanref1_MaySpans.l0
   repeat' first
   | (with_reducible exact ih0 _ _)
   | (with_reducible exact LeO.refl _)
   | (with_reducible exact LeO.none _)
   | (with_reducible refine LeO.ite ?_ ?_)
   | (with_reducible refine LeO.bind ?_ (fun _ => ?_))
   | exact ih0 _ _
   | exact LeO.none _
   | refine LeO.ite ?_ ?_
   | refine LeO.bind ?_ (fun _ => ?_)
theorem caravanref1_MaySpans.mono : ∀ a0 k, LeO (caravanref1_MaySpans.f k a0) (caravanref1_MaySpans.f (k + 1) a0) := by
 intro a0 k
 have ih0 := caravanref1_MaySpans.mono_l k
 unfold caravanref1_MaySpans.f
 repeat' first
  | (with_reducible exact ih0 _ _)
  | (with_reducible exact LeO.refl _)
  | (with_reducible exact LeO.none _)
  | (with_reducible refine LeO.ite ?_ ?_)
  | (with_reducible refine LeO.bind ?_ (fun _ => ?_))
  | exact ih0 _ _
  | exact LeO.none _
  | refine LeO.ite ?_ ?_
  | refine LeO.bind ?_ (fun _ => ?_)
set_option maxHeartbeats 8000000 in
set_option maxRecDepth 100000 in
theorem caravanref1_MaySpans.calls (k : Nat) (A0 : Option Addr) (c0 : Nat) (l0 : List (S31)) (r : Bool) (w : World) (hr0 : Kd.C k31 w A0 l0.length l0) (hc0 : l0.length ≤ c0) (h : caravanref1_MaySpans.f k l0 = some r) :
 Calls Tryd.prog 15 #[.slice A0 l0.length c0] w fun e w' => e = .returned (.bool r) ∧ Drawn0 w w' := by
 have HR0 := Aside0.mk hr0
 have HC0 := Aside0.mk hc0
 clear hr0 hc0
 have H : (caravanref1_MaySpans.l0 k l0 0) = some r := h
 clear h
 have H' := Aside0.mk H
 clear H
 go_enter Tryd.func15, Tryd.ntmps15
 go_wp2
 repeat (go_quiet (fail); try go_wp2)
 go_loopg [3] k (fun kq v3 w' => ∃ (x3_1 : Int), v3 = .int .i64 x3_1 ∧ Aside0 (caravanref1_MaySpans.l0 kq l0 x3_1 = some r) ∧ Aside0 (kq ≤ k) ∧ Drawn0 w w')
 case atStart => exact ⟨(0), (by first | rfl | (simp; done) | (simp [*]; done)), H', ⟨Nat.le_refl _⟩, (by repeat (first | exact Drawn0.refl _ | apply Drawn0.step))⟩
 case round =>
  clear H'
  try clear c1
  obtain ⟨x3_1, rfl, HA, HK1, ⟨m1, rfl⟩⟩ := hrel
  cases gk with
  | zero => exact absurd HA.out (by simp [caravanref1_MaySpans.l0])
  | succ k1 =>
   have H := HA.out
   clear HA
   simp only [caravanref1_MaySpans.l0] at H
   by_cases c2 : x3_1 < (l0.length : Int)
   ·rw [if_pos c2] at H
    have c2b0 : decide (x3_1 < (l0.length : Int)) = true := decide_eq_true c2
    clear c2
    by_cases c3 : 0 ≤ x3_1
    ·rw [if_pos c3] at H
     have c3b0 : decide (0 ≤ x3_1) = true := decide_eq_true c3
     clear c3
     by_cases c4 : ((rd_T31 l0 x3_1).f0) < 0
     ·rw [if_pos c4] at H
      have c4b0 : decide (((rd_T31 l0 x3_1).f0) < 0) = true := decide_eq_true c4
      clear c4
      obtain rfl := Option.some.inj H
      have p115 : 0 ≤ (x3_1 : Int) := of_decide_eq_true (by first | (with_reducible assumption) | assumption)
      have q115 : x3_1 < (l0.length : Int) := of_decide_eq_true (by first | (with_reducible assumption) | assumption)
      obtain ⟨ad115, e115, hx115_0, hx115_1⟩ := at_T31 HR0.out x3_1 p115 q115
      cases e115
      replace p115 := eq_true p115
      replace q115 := eq_true q115
      go_wp2
      repeat (go_quiet (fail); try go_wp2)
      go_ret
      exact ⟨by first | rfl | (simp; done) | (simp [*]; done), (by repeat (first | exact Drawn0.refl _ | apply Drawn0.step))⟩
     ·rw [if_neg c4] at H
      have c4b0 : decide (((rd_T31 l0 x3_1).f0) < 0) = false := decide_eq_false c4
      clear c4
      by_cases c5 : ((rd_T31 l0 x3_1).f1) < ((rd_T31 l0 x3_1).f0)
      ·rw [if_pos c5] at H
       have c5b0 : decide (((rd_T31 l0 x3_1).f1) < ((rd_T31 l0 x3_1).f0)) = true := decide_eq_true c5
       clear c5
       obtain rfl := Option.some.inj H
       have p115 : 0 ≤ (x3_1 : Int) := of_decide_eq_true (by first | (with_reducible assumption) | assumption)
       have q115 : x3_1 < (l0.length : Int) := of_decide_eq_true (by first | (with_reducible assumption) | assumption)
       obtain ⟨ad115, e115, hx115_0, hx115_1⟩ := at_T31 HR0.out x3_1 p115 q115
       cases e115
       replace p115 := eq_true p115
       replace q115 := eq_true q115
       have p116 : 0 ≤ (x3_1 : Int) := of_decide_eq_true (by first | (with_reducible assumption) | assumption)
       have q116 : x3_1 < (l0.length : Int) := of_decide_eq_true (by first | (with_reducible assumption) | assumption)
       obtain ⟨ad116, e116, hx116_0, hx116_1⟩ := at_T31 HR0.out x3_1 p116 q116
       obtain rfl : ad115 = ad116 := (by injection e116)
       replace p116 := eq_true p116
       replace q116 := eq_true q116
       have p117 : 0 ≤ (x3_1 : Int) := of_decide_eq_true (by first | (with_reducible assumption) | assumption)
       have q117 : x3_1 < (l0.length : Int) := of_decide_eq_true (by first | (with_reducible assumption) | assumption)
       obtain ⟨ad117, e117, hx117_0, hx117_1⟩ := at_T31 HR0.out x3_1 p117 q117
       obtain rfl : ad115 = ad117 := (by injection e117)
       replace p117 := eq_true p117
       replace q117 := eq_true q117
       go_wp2
       repeat (go_quiet (fail); try go_wp2)
       go_ret
       exact ⟨by first | rfl | (simp; done) | (simp [*]; done), (by repeat (first | exact Drawn0.refl _ | apply Drawn0.step))⟩
      ·rw [if_neg c5] at H
       have c5b0 : decide (((rd_T31 l0 x3_1).f1) < ((rd_T31 l0 x3_1).f0)) = false := decide_eq_false c5
       clear c5
       by_cases c6 : ((rd_T31 l0 x3_1).f1) ≥ 16384
       ·rw [if_pos c6] at H
        have c6b0 : decide (16384 ≤ ((rd_T31 l0 x3_1).f1)) = true := decide_eq_true c6
        clear c6
        obtain rfl := Option.some.inj H
        have p115 : 0 ≤ (x3_1 : Int) := of_decide_eq_true (by first | (with_reducible assumption) | assumption)
        have q115 : x3_1 < (l0.length : Int) := of_decide_eq_true (by first | (with_reducible assumption) | assumption)
        obtain ⟨ad115, e115, hx115_0, hx115_1⟩ := at_T31 HR0.out x3_1 p115 q115
        cases e115
        replace p115 := eq_true p115
        replace q115 := eq_true q115
        have p116 : 0 ≤ (x3_1 : Int) := of_decide_eq_true (by first | (with_reducible assumption) | assumption)
        have q116 : x3_1 < (l0.length : Int) := of_decide_eq_true (by first | (with_reducible assumption) | assumption)
        obtain ⟨ad116, e116, hx116_0, hx116_1⟩ := at_T31 HR0.out x3_1 p116 q116
        obtain rfl : ad115 = ad116 := (by injection e116)
        replace p116 := eq_true p116
        replace q116 := eq_true q116
        have p117 : 0 ≤ (x3_1 : Int) := of_decide_eq_true (by first | (with_reducible assumption) | assumption)
        have q117 : x3_1 < (l0.length : Int) := of_decide_eq_true (by first | (with_reducible assumption) | assumption)
        obtain ⟨ad117, e117, hx117_0, hx117_1⟩ := at_T31 HR0.out x3_1 p117 q117
        obtain rfl : ad115 = ad117 := (by injection e117)
        replace p117 := eq_true p117
        replace q117 := eq_true q117
        have p118 : 0 ≤ (x3_1 : Int) := of_decide_eq_true (by first | (with_reducible assumption) | assumption)
        have q118 : x3_1 < (l0.length : Int) := of_decide_eq_true (by first | (with_reducible assumption) | assumption)
        obtain ⟨ad118, e118, hx118_0, hx118_1⟩ := at_T31 HR0.out x3_1 p118 q118
        obtain rfl : ad115 = ad118 := (by injection e118)
        replace p118 := eq_true p118
        replace q118 := eq_true q118
        go_wp2
        repeat (go_quiet (fail); try go_wp2)
        go_ret
        exact ⟨by first | rfl | (simp; done) | (simp [*]; done), (by repeat (first | exact Drawn0.refl _ | apply Drawn0.step))⟩
       ·rw [if_neg c6] at H
        have c6b0 : decide (16384 ≤ ((rd_T31 l0 x3_1).f1)) = false := decide_eq_false c6
        clear c6
        by_cases c7 : x3_1 > 0
        ·rw [if_pos c7] at H
         have c7b0 : decide (0 < x3_1) = true := decide_eq_true c7
         clear c7
         obtain ⟨ji8, hji8⟩ : ∃ j_ : Int, (wrap64 (x3_1 - 1)) = j_ := ⟨_, rfl⟩
         replace H : (if 0 ≤ (ji8) then (if (ji8) < (l0.length : Int) then (if ((rd_T31 l0 x3_1).f0) ≤ (wrap64 (((rd_T31 l0 (ji8)).f1) + 1)) then (some false) else (caravanref1_MaySpans.l0 k1 l0 (wrap64 (x3_1 + 1)))) else (none)) else (none)) = some r := by first | (rw [hji8] at H; exact H) | (simp only [hji8] at H ⊢; exact H)
         have hji8w : (IntKind.i64.wrap (x3_1 - 1)) = ji8 := (i64_w _).trans hji8
         by_cases c9 : 0 ≤ (ji8)
         ·rw [if_pos c9] at H
          have c9b0 : decide (0 ≤ (ji8)) = true := decide_eq_true c9
          clear c9
          by_cases c10 : (ji8) < (l0.length : Int)
          ·rw [if_pos c10] at H
           have c10b0 : decide ((ji8) < (l0.length : Int)) = true := decide_eq_true c10
           clear c10
           by_cases c11 : ((rd_T31 l0 x3_1).f0) ≤ (wrap64 (((rd_T31 l0 (ji8)).f1) + 1))
           ·rw [if_pos c11] at H
            have c11b0 : decide (((rd_T31 l0 x3_1).f0) ≤ (wrap64 (((rd_T31 l0 (ji8)).f1) + 1))) = true := decide_eq_true c11
            clear c11
            obtain rfl := Option.some.inj H
            have p115 : 0 ≤ (x3_1 : Int) := of_decide_eq_true (by first | (with_reducible assumption) | assumption)
            have q115 : x3_1 < (l0.length : Int) := of_decide_eq_true (by first | (with_reducible assumption) | assumption)
            obtain ⟨ad115, e115, hx115_0, hx115_1⟩ := at_T31 HR0.out x3_1 p115 q115
            cases e115
            replace p115 := eq_true p115
            replace q115 := eq_true q115
            have p116 : 0 ≤ (x3_1 : Int) := of_decide_eq_true (by first | (with_reducible assumption) | assumption)
            have q116 : x3_1 < (l0.length : Int) := of_decide_eq_true (by first | (with_reducible assumption) | assumption)
            obtain ⟨ad116, e116, hx116_0, hx116_1⟩ := at_T31 HR0.out x3_1 p116 q116
            obtain rfl : ad115 = ad116 := (by injection e116)
            replace p116 := eq_true p116
            replace q116 := eq_true q116
            have p117 : 0 ≤ (x3_1 : Int) := of_decide_eq_true (by first | (with_reducible assumption) | assumption)
            have q117 : x3_1 < (l0.length : Int) := of_decide_eq_true (by first | (with_reducible assumption) | assumption)
            obtain ⟨ad117, e117, hx117_0, hx117_1⟩ := at_T31 HR0.out x3_1 p117 q117
            obtain rfl : ad115 = ad117 := (by injection e117)
            replace p117 := eq_true p117
            replace q117 := eq_true q117
            have p118 : 0 ≤ (x3_1 : Int) := of_decide_eq_true (by first | (with_reducible assumption) | assumption)
            have q118 : x3_1 < (l0.length : Int) := of_decide_eq_true (by first | (with_reducible assumption) | assumption)
            obtain ⟨ad118, e118, hx118_0, hx118_1⟩ := at_T31 HR0.out x3_1 p118 q118
            obtain rfl : ad115 = ad118 := (by injection e118)
            replace p118 := eq_true p118
            replace q118 := eq_true q118
            have p119 : 0 ≤ (x3_1 : Int) := of_decide_eq_true (by first | (with_reducible assumption) | assumption)
            have q119 : x3_1 < (l0.length : Int) := of_decide_eq_true (by first | (with_reducible assumption) | assumption)
            obtain ⟨ad119, e119, hx119_0, hx119_1⟩ := at_T31 HR0.out x3_1 p119 q119
            obtain rfl : ad115 = ad119 := (by injection e119)
            replace p119 := eq_true p119
            replace q119 := eq_true q119
            have p120 : 0 ≤ ((ji8) : Int) := of_decide_eq_true (by first | (with_reducible assumption) | assumption)
            have q120 : (ji8) < (l0.length : Int) := of_decide_eq_true (by first | (with_reducible assumption) | assumption)
            obtain ⟨ad120, e120, hx120_0, hx120_1⟩ := at_T31 HR0.out (ji8) p120 q120
            obtain rfl : ad115 = ad120 := (by injection e120)
            replace p120 := eq_true p120
            replace q120 := eq_true q120
            go_wp2
            repeat (go_quiet (fail); try go_wp2)
            go_ret
            exact ⟨by first | rfl | (simp; done) | (simp only [← hji8] <;> (first | rfl | simp)) | (simp [*]; done), (by repeat (first | exact Drawn0.refl _ | apply Drawn0.step))⟩
           ·rw [if_neg c11] at H
            have c11b0 : decide (((rd_T31 l0 x3_1).f0) ≤ (wrap64 (((rd_T31 l0 (ji8)).f1) + 1))) = false := decide_eq_false c11
            clear c11
            have H' := Aside0.mk H
            clear H
            have p115 : 0 ≤ (x3_1 : Int) := of_decide_eq_true (by first | (with_reducible assumption) | assumption)
            have q115 : x3_1 < (l0.length : Int) := of_decide_eq_true (by first | (with_reducible assumption) | assumption)
            obtain ⟨ad115, e115, hx115_0, hx115_1⟩ := at_T31 HR0.out x3_1 p115 q115
            cases e115
            replace p115 := eq_true p115
            replace q115 := eq_true q115
            have p116 : 0 ≤ (x3_1 : Int) := of_decide_eq_true (by first | (with_reducible assumption) | assumption)
            have q116 : x3_1 < (l0.length : Int) := of_decide_eq_true (by first | (with_reducible assumption) | assumption)
            obtain ⟨ad116, e116, hx116_0, hx116_1⟩ := at_T31 HR0.out x3_1 p116 q116
            obtain rfl : ad115 = ad116 := (by injection e116)
            replace p116 := eq_true p116
            replace q116 := eq_true q116
            have p117 : 0 ≤ (x3_1 : Int) := of_decide_eq_true (by first | (with_reducible assumption) | assumption)
            have q117 : x3_1 < (l0.length : Int) := of_decide_eq_true (by first | (with_reducible assumption) | assumption)
            obtain ⟨ad117, e117, hx117_0, hx117_1⟩ := at_T31 HR0.out x3_1 p117 q117
            obtain rfl : ad115 = ad117 := (by injection e117)
            replace p117 := eq_true p117
            replace q117 := eq_true q117
            have p118 : 0 ≤ (x3_1 : Int) := of_decide_eq_true (by first | (with_reducible assumption) | assumption)
            have q118 : x3_1 < (l0.length : Int) := of_decide_eq_true (by first | (with_reducible assumption) | assumption)
            obtain ⟨ad118, e118, hx118_0, hx118_1⟩ := at_T31 HR0.out x3_1 p118 q118
            obtain rfl : ad115 = ad118 := (by injection e118)
            replace p118 := eq_true p118
            replace q118 := eq_true q118
            have p119 : 0 ≤ (x3_1 : Int) := of_decide_eq_true (by first | (with_reducible assumption) | assumption)
            have q119 : x3_1 < (l0.length : Int) := of_decide_eq_true (by first | (with_reducible assumption) | assumption)
            obtain ⟨ad119, e119, hx119_0, hx119_1⟩ := at_T31 HR0.out x3_1 p119 q119
            obtain rfl : ad115 = ad119 := (by injection e119)
            replace p119 := eq_true p119
            replace q119 := eq_true q119
            have p120 : 0 ≤ ((ji8) : Int) := of_decide_eq_true (by first | (with_reducible assumption) | assumption)
            have q120 : (ji8) < (l0.length : Int) := of_decide_eq_true (by first | (with_reducible assumption) | assumption)
            obtain ⟨ad120, e120, hx120_0, hx120_1⟩ := at_T31 HR0.out (ji8) p120 q120
            obtain rfl : ad115 = ad120 := (by injection e120)
            replace p120 := eq_true p120
            replace q120 := eq_true q120
            go_wp2
            repeat (go_quiet (fail); try go_wp2)
            go_roundg k1
            case measure => have := HK1.out; omega
            case rel => exact ⟨(wrap64 (x3_1 + 1)), (by first | rfl | (simp; done) | (simp [*]; done)), H', ⟨by have := HK1.out; omega⟩, (by repeat (first | exact Drawn0.refl _ | apply Drawn0.step))⟩
          ·rw [if_neg c10] at H
           exact absurd H (by simp)
         ·rw [if_neg c9] at H
          exact absurd H (by simp)
        ·rw [if_neg c7] at H
         have c7b0 : decide (0 < x3_1) = false := decide_eq_false c7
         clear c7
         have H' := Aside0.mk H
         clear H
         have p115 : 0 ≤ (x3_1 : Int) := of_decide_eq_true (by first | (with_reducible assumption) | assumption)
         have q115 : x3_1 < (l0.length : Int) := of_decide_eq_true (by first | (with_reducible assumption) | assumption)
         obtain ⟨ad115, e115, hx115_0, hx115_1⟩ := at_T31 HR0.out x3_1 p115 q115
         cases e115
         replace p115 := eq_true p115
         replace q115 := eq_true q115
         have p116 : 0 ≤ (x3_1 : Int) := of_decide_eq_true (by first | (with_reducible assumption) | assumption)
         have q116 : x3_1 < (l0.length : Int) := of_decide_eq_true (by first | (with_reducible assumption) | assumption)
         obtain ⟨ad116, e116, hx116_0, hx116_1⟩ := at_T31 HR0.out x3_1 p116 q116
         obtain rfl : ad115 = ad116 := (by injection e116)
         replace p116 := eq_true p116
         replace q116 := eq_true q116
         have p117 : 0 ≤ (x3_1 : Int) := of_decide_eq_true (by first | (with_reducible assumption) | assumption)
         have q117 : x3_1 < (l0.length : Int) := of_decide_eq_true (by first | (with_reducible assumption) | assumption)
         obtain ⟨ad117, e117, hx117_0, hx117_1⟩ := at_T31 HR0.out x3_1 p117 q117
         obtain rfl : ad115 = ad117 := (by injection e117)
         replace p117 := eq_true p117
         replace q117 := eq_true q117
         have p118 : 0 ≤ (x3_1 : Int) := of_decide_eq_true (by first | (with_reducible assumption) | assumption)
         have q118 : x3_1 < (l0.length : Int) := of_decide_eq_true (by first | (with_reducible assumption) | assumption)
         obtain ⟨ad118, e118, hx118_0, hx118_1⟩ := at_T31 HR0.out x3_1 p118 q118
         obtain rfl : ad115 = ad118 := (by injection e118)
         replace p118 := eq_true p118
         replace q118 := eq_true q118
         go_wp2
         repeat (go_quiet (fail); try go_wp2)
         go_roundg k1
         case measure => have := HK1.out; omega
         case rel => exact ⟨(wrap64 (x3_1 + 1)), (by first | rfl | (simp; done) | (simp [*]; done)), H', ⟨by have := HK1.out; omega⟩, (by repeat (first | exact Drawn0.refl _ | apply Drawn0.step))⟩
    ·rw [if_neg c3] at H
     exact absurd H (by simp)
   ·rw [if_neg c2] at H
    have c2b0 : decide (x3_1 < (l0.length : Int)) = false := decide_eq_false c2
    clear c2
    obtain rfl := Option.some.inj H
    go_wp2
    repeat (go_quiet (fail); try go_wp2)
    go_ret
    exact ⟨by first | rfl | (simp; done) | (simp [*]; done), (by repeat (first | exact Drawn0.refl _ | apply Drawn0.step))⟩

/-! ### caravanref1_Has: function 19 -/
def caravanref1_Has.l0 : Nat → List (S31) → Int → Int → Option (Bool)
 | 0, _, _, _ => none
 | k + 1, x0, x1, x5 => if x5 < (x0.length : Int) then (if x1 ≥ 0 then (if x1 < 16384 then (if 0 ≤ x5 then (if ((rd_T31 x0 x5).f0) ≤ x1 then (if x1 ≤ ((rd_T31 x0 x5).f1) then (some true) else (caravanref1_Has.l0 k x0 x1 (wrap64 (x5 + 1)))) else (caravanref1_Has.l0 k x0 x1 (wrap64 (x5 + 1)))) else (none)) else (caravanref1_Has.l0 k x0 x1 (wrap64 (x5 + 1)))) else (caravanref1_Has.l0 k x0 x1 (wrap64 (x5 + 1)))) else (some false)
def caravanref1_Has.f (k : Nat) (l0 : List (S31)) (a1 : Int) : Option (Bool) := caravanref1_Has.l0 k l0 a1 0
theorem caravanref1_Has.mono_l : ∀ k, (∀ y0 y1 y2, LeO (caravanref1_Has.l0 k y0 y1 y2) (caravanref1_Has.l0 (k + 1) y0 y1 y2))
 | 0 => fun _ _ _ r h => by simp [caravanref1_Has.l0] at h
 | k + 1 => by
  have ih0 := caravanref1_Has.mono_l k
  ·intro y0 y1 y2
   unfold caravanref1_Has.l0
   repeat' first
   | (with_reducible exact ih0 _ _ _)
   | (with_reducible exact LeO.refl _)
   | (with_reducible exact LeO.none _)
   | (with_reducible refine LeO.ite ?_ ?_)
   | (with_reducible refine LeO.bind ?_ (fun _ => ?_))
   | exact ih0 _ _ _
   | exact LeO.none _
   | refine LeO.ite ?_ ?_
   | refine LeO.bind ?_ (fun _ => ?_)
theorem caravanref1_Has.mono : ∀ a0 a1 k, LeO (caravanref1_Has.f k a0 a1) (caravanref1_Has.f (k + 1) a0 a1) := by
 intro a0 a1 k
 have ih0 := caravanref1_Has.mono_l k
 unfold caravanref1_Has.f
 repeat' first
  | (with_reducible exact ih0 _ _ _)
  | (with_reducible exact LeO.refl _)
  | (with_reducible exact LeO.none _)
  | (with_reducible refine LeO.ite ?_ ?_)
  | (with_reducible refine LeO.bind ?_ (fun _ => ?_))
  | exact ih0 _ _ _
  | exact LeO.none _
  | refine LeO.ite ?_ ?_
  | refine LeO.bind ?_ (fun _ => ?_)
set_option maxHeartbeats 8000000 in
set_option maxRecDepth 100000 in
theorem caravanref1_Has.calls (k : Nat) (A0 : Option Addr) (c0 : Nat) (l0 : List (S31)) (a1 : Int) (r : Bool) (w : World) (hr0 : Kd.C k31 w A0 l0.length l0) (hc0 : l0.length ≤ c0) (h : caravanref1_Has.f k l0 a1 = some r) :
 Calls Tryd.prog 19 #[.slice A0 l0.length c0, .int .i64 a1] w fun e w' => e = .returned (.bool r) ∧ Drawn0 w w' := by
 have HR0 := Aside0.mk hr0
 have HC0 := Aside0.mk hc0
 clear hr0 hc0
 have H : (caravanref1_Has.l0 k l0 a1 0) = some r := h
 clear h
 have H' := Aside0.mk H
 clear H
 go_enter Tryd.func19, Tryd.ntmps19
 go_wp2
 go_loopg [5] k (fun kq v5 w' => ∃ (x5_1 : Int), v5 = .int .i64 x5_1 ∧ Aside0 (caravanref1_Has.l0 kq l0 a1 x5_1 = some r) ∧ Aside0 (kq ≤ k) ∧ Drawn0 w w')
 case atStart => exact ⟨(0), (by first | rfl | (simp; done) | (simp [*]; done)), H', ⟨Nat.le_refl _⟩, (by repeat (first | exact Drawn0.refl _ | apply Drawn0.step))⟩
 case round =>
  clear H'
  try clear c1
  try clear p2
  obtain ⟨x5_1, rfl, HA, HK1, ⟨m1, rfl⟩⟩ := hrel
  cases gk with
  | zero => exact absurd HA.out (by simp [caravanref1_Has.l0])
  | succ k1 =>
   have H := HA.out
   clear HA
   simp only [caravanref1_Has.l0] at H
   by_cases c3 : x5_1 < (l0.length : Int)
   ·rw [if_pos c3] at H
    have c3b0 : decide (x5_1 < (l0.length : Int)) = true := decide_eq_true c3
    clear c3
    by_cases c4 : a1 ≥ 0
    ·rw [if_pos c4] at H
     have c4b0 : decide (0 ≤ a1) = true := decide_eq_true c4
     clear c4
     by_cases c5 : a1 < 16384
     ·rw [if_pos c5] at H
      have c5b0 : decide (a1 < 16384) = true := decide_eq_true c5
      clear c5
      by_cases c6 : 0 ≤ x5_1
      ·rw [if_pos c6] at H
       have c6b0 : decide (0 ≤ x5_1) = true := decide_eq_true c6
       clear c6
       by_cases c7 : ((rd_T31 l0 x5_1).f0) ≤ a1
       ·rw [if_pos c7] at H
        have c7b0 : decide (((rd_T31 l0 x5_1).f0) ≤ a1) = true := decide_eq_true c7
        clear c7
        by_cases c8 : a1 ≤ ((rd_T31 l0 x5_1).f1)
        ·rw [if_pos c8] at H
         have c8b0 : decide (a1 ≤ ((rd_T31 l0 x5_1).f1)) = true := decide_eq_true c8
         clear c8
         obtain rfl := Option.some.inj H
         have p127 : 0 ≤ (x5_1 : Int) := of_decide_eq_true (by first | (with_reducible assumption) | assumption)
         have q127 : x5_1 < (l0.length : Int) := of_decide_eq_true (by first | (with_reducible assumption) | assumption)
         obtain ⟨ad127, e127, hx127_0, hx127_1⟩ := at_T31 HR0.out x5_1 p127 q127
         cases e127
         replace p127 := eq_true p127
         replace q127 := eq_true q127
         have p128 : 0 ≤ (x5_1 : Int) := of_decide_eq_true (by first | (with_reducible assumption) | assumption)
         have q128 : x5_1 < (l0.length : Int) := of_decide_eq_true (by first | (with_reducible assumption) | assumption)
         obtain ⟨ad128, e128, hx128_0, hx128_1⟩ := at_T31 HR0.out x5_1 p128 q128
         obtain rfl : ad127 = ad128 := (by injection e128)
         replace p128 := eq_true p128
         replace q128 := eq_true q128
         go_wp2
         go_ret
         exact ⟨by first | rfl | (simp; done) | (simp [*]; done), (by repeat (first | exact Drawn0.refl _ | apply Drawn0.step))⟩
        ·rw [if_neg c8] at H
         have c8b0 : decide (a1 ≤ ((rd_T31 l0 x5_1).f1)) = false := decide_eq_false c8
         clear c8
         have H' := Aside0.mk H
         clear H
         have p127 : 0 ≤ (x5_1 : Int) := of_decide_eq_true (by first | (with_reducible assumption) | assumption)
         have q127 : x5_1 < (l0.length : Int) := of_decide_eq_true (by first | (with_reducible assumption) | assumption)
         obtain ⟨ad127, e127, hx127_0, hx127_1⟩ := at_T31 HR0.out x5_1 p127 q127
         cases e127
         replace p127 := eq_true p127
         replace q127 := eq_true q127
         have p128 : 0 ≤ (x5_1 : Int) := of_decide_eq_true (by first | (with_reducible assumption) | assumption)
         have q128 : x5_1 < (l0.length : Int) := of_decide_eq_true (by first | (with_reducible assumption) | assumption)
         obtain ⟨ad128, e128, hx128_0, hx128_1⟩ := at_T31 HR0.out x5_1 p128 q128
         obtain rfl : ad127 = ad128 := (by injection e128)
         replace p128 := eq_true p128
         replace q128 := eq_true q128
         go_wp2
         go_roundg k1
         case measure => have := HK1.out; omega
         case rel => exact ⟨(wrap64 (x5_1 + 1)), (by first | rfl | (simp; done) | (simp [*]; done)), H', ⟨by have := HK1.out; omega⟩, (by repeat (first | exact Drawn0.refl _ | apply Drawn0.step))⟩
       ·rw [if_neg c7] at H
        have c7b0 : decide (((rd_T31 l0 x5_1).f0) ≤ a1) = false := decide_eq_false c7
        clear c7
        have H' := Aside0.mk H
        clear H
        have p127 : 0 ≤ (x5_1 : Int) := of_decide_eq_true (by first | (with_reducible assumption) | assumption)
        have q127 : x5_1 < (l0.length : Int) := of_decide_eq_true (by first | (with_reducible assumption) | assumption)
        obtain ⟨ad127, e127, hx127_0, hx127_1⟩ := at_T31 HR0.out x5_1 p127 q127
        cases e127
        replace p127 := eq_true p127
        replace q127 := eq_true q127
        go_wp2
        go_roundg k1
        case measure => have := HK1.out; omega
        case rel => exact ⟨(wrap64 (x5_1 + 1)), (by first | rfl | (simp; done) | (simp [*]; done)), H', ⟨by have := HK1.out; omega⟩, (by repeat (first | exact Drawn0.refl _ | apply Drawn0.step))⟩
      ·rw [if_neg c6] at H
       exact absurd H (by simp)
     ·rw [if_neg c5] at H
      have c5b0 : decide (a1 < 16384) = false := decide_eq_false c5
      clear c5
      have H' := Aside0.mk H
      clear H
      go_wp2
      go_roundg k1
      case measure => have := HK1.out; omega
      case rel => exact ⟨(wrap64 (x5_1 + 1)), (by first | rfl | (simp; done) | (simp [*]; done)), H', ⟨by have := HK1.out; omega⟩, (by repeat (first | exact Drawn0.refl _ | apply Drawn0.step))⟩
    ·rw [if_neg c4] at H
     have c4b0 : decide (0 ≤ a1) = false := decide_eq_false c4
     clear c4
     have H' := Aside0.mk H
     clear H
     go_wp2
     go_roundg k1
     case measure => have := HK1.out; omega
     case rel => exact ⟨(wrap64 (x5_1 + 1)), (by first | rfl | (simp; done) | (simp [*]; done)), H', ⟨by have := HK1.out; omega⟩, (by repeat (first | exact Drawn0.refl _ | apply Drawn0.step))⟩
   ·rw [if_neg c3] at H
    have c3b0 : decide (x5_1 < (l0.length : Int)) = false := decide_eq_false c3
    clear c3
    obtain rfl := Option.some.inj H
    go_wp2
    go_ret
    exact ⟨by first | rfl | (simp; done) | (simp [*]; done), (by repeat (first | exact Drawn0.refl _ | apply Drawn0.step))⟩

end Go.Proofs.YtnlakdpfkgjdaaaDoor.G

/- What functions of the translation come to, and their calls' proofs; by a program of mine over the kit's print, with contracts given by hand beside. Conditions: where a plain function tells none, nothing is said. -/
namespace Go.Proofs.YtnlakdpfkgjdaaaDoor.G
open Go.RowKit Go.Proofs.YtnlakdpfkgjdaaaDoorW.PrintWords Go.Proofs.YtnlakdpfkgjdaaaDoorW.PrintLast Go.Proofs.YtnlakdpfkgjdaaaDoorW.PrintMore
attribute [local go_sem] max2_int min2_int max_two min_two max_three min_three max_four min_four   -- for this text's walks alone
set_option linter.unusedVariables false
set_option linter.unusedSimpArgs false

theorem eqA31 (d : Nat) (w : World) (x0 y0 : Int) (x1 y1 : Int) :
    (Op.equalIn (d + 2) 31 (.agg #[.int .i64 x0, .int .i64 x1]) (.agg #[.int .i64 y0, .int .i64 y1])).run Tryd.prog w = .ok (x0 == y0 && (x1 == y1)) w := by
  refine eqA_of Tryd.underlying31 (by kernel_rfl) ?_
  refine eqf_cons (by rfl) (by go_simp; rfl) (by go_simp; rfl) (by go_simp) ?_
  exact eqf_last (by rfl) (by go_simp; rfl) (by go_simp; rfl) (by go_simp)
end Go.Proofs.YtnlakdpfkgjdaaaDoor.G

/- What functions of the translation come to, and their calls' proofs; by a program of mine over the kit's print, with contracts given by hand beside. Conditions: where a plain function tells none, nothing is said. -/
namespace Go.Proofs.YtnlakdpfkgjdaaaDoor.G
open Go.RowKit Go.Proofs.YtnlakdpfkgjdaaaDoorW.PrintWords Go.Proofs.YtnlakdpfkgjdaaaDoorW.PrintLast Go.Proofs.YtnlakdpfkgjdaaaDoorW.PrintMore
attribute [local go_sem] max2_int min2_int max_two min_two max_three min_three max_four min_four   -- for this text's walks alone
set_option linter.unusedVariables false
set_option linter.unusedSimpArgs false

/-! ### caravanref1_Mark: function 55 -/
def caravanref1_Mark.l0 : Nat → List Int → Int → Int → Option (List Int)
 | 0, _, _, _ => none
 | k + 1, x0, x1, x5 => if x5 > 0 then (if 0 ≤ (wrap64 (x5 - 1)) then (if (wrap64 (x5 - 1)) < (x0.length : Int) then (if (rd x0 (wrap64 (x5 - 1))) ≥ x1 then (caravanref1_Mark.l0 k x0 x1 (wrap64 (x5 - 1))) else (if x1 < 0 then (some x0) else (if x1 > 16384 then (some x0) else (if x5 < (x0.length : Int) then (if 0 ≤ x5 then (if (rd x0 x5) = x1 then (some x0) else ((some (([] : List Int) : List Int)).bind fun y131 => (if x5 ≤ (x0.length : Int) then ((some (x0.take (x5 : Int).toNat : List Int)).bind fun y134 => (if y131.length + y134.length < 17592186044416 then ((some (y131 ++ y134 : List Int)).bind fun y138 => (if y138.length < 17592186044416 then ((some (y138 ++ [x1] : List Int)).bind fun y141 => ((some (x0.drop (x5 : Int).toNat : List Int)).bind fun y144 => (if y141.length + y144.length < 17592186044416 then (some (y141 ++ y144)) else (none)))) else (none))) else (none))) else (none)))) else (none)) else ((some (([] : List Int) : List Int)).bind fun y151 => (if 0 ≤ x5 then (if x5 ≤ (x0.length : Int) then ((some (x0.take (x5 : Int).toNat : List Int)).bind fun y154 => (if y151.length + y154.length < 17592186044416 then ((some (y151 ++ y154 : List Int)).bind fun y158 => (if y158.length < 17592186044416 then ((some (y158 ++ [x1] : List Int)).bind fun y161 => ((some (x0.drop (x5 : Int).toNat : List Int)).bind fun y164 => (if y161.length + y164.length < 17592186044416 then (some (y161 ++ y164)) else (none)))) else (none))) else (none))) else (none)) else (none))))))) else (none)) else (none)) else (if x1 < 0 then (some x0) else (if x1 > 16384 then (some x0) else (if x5 < (x0.length : Int) then (if 0 ≤ x5 then (if (rd x0 x5) = x1 then (some x0) else ((some (([] : List Int) : List Int)).bind fun y172 => (if x5 ≤ (x0.length : Int) then ((some (x0.take (x5 : Int).toNat : List Int)).bind fun y175 => (if y172.length + y175.length < 17592186044416 then ((some (y172 ++ y175 : List Int)).bind fun y179 => (if y179.length < 17592186044416 then ((some (y179 ++ [x1] : List Int)).bind fun y182 => ((some (x0.drop (x5 : Int).toNat : List Int)).bind fun y185 => (if y182.length + y185.length < 17592186044416 then (some (y182 ++ y185)) else (none)))) else (none))) else (none))) else (none)))) else (none)) else ((some (([] : List Int) : List Int)).bind fun y192 => (if 0 ≤ x5 then (if x5 ≤ (x0.length : Int) then ((some (x0.take (x5 : Int).toNat : List Int)).bind fun y195 => (if y192.length + y195.length < 17592186044416 then ((some (y192 ++ y195 : List Int)).bind fun y199 => (if y199.length < 17592186044416 then ((some (y199 ++ [x1] : List Int)).bind fun y202 => ((some (x0.drop (x5 : Int).toNat : List Int)).bind fun y205 => (if y202.length + y205.length < 17592186044416 then (some (y202 ++ y205)) else (none)))) else (none))) else (none))) else (none)) else (none))))))
def caravanref1_Mark.f (k : Nat) (l0 : List Int) (a1 : Int) : Option (List Int) := caravanref1_Mark.l0 k l0 a1 (l0.length : Int)
theorem caravanref1_Mark.mono_l : ∀ k, (∀ y0 y1 y2, LeO (caravanref1_Mark.l0 k y0 y1 y2) (caravanref1_Mark.l0 (k + 1) y0 y1 y2))
 | 0 => fun _ _ _ r h => by simp [caravanref1_Mark.l0] at h
 | k + 1 => by
  have ih0 := caravanref1_Mark.mono_l k
  ·intro y0 y1 y2
   unfold caravanref1_Mark.l0
   repeat' first
   | (with_reducible exact ih0 _ _ _)
   | (with_reducible exact LeO.refl _)
   | (with_reducible exact LeO.none _)
   | (with_reducible refine LeO.ite ?_ ?_)
   | (with_reducible refine LeO.bind ?_ (fun _ => ?_))
   | exact ih0 _ _ _
   | exact LeO.none _
   | refine LeO.ite ?_ ?_
   | refine LeO.bind ?_ (fun _ => ?_)
theorem caravanref1_Mark.mono : ∀ a0 a1 k, LeO (caravanref1_Mark.f k a0 a1) (caravanref1_Mark.f (k + 1) a0 a1) := by
 intro a0 a1 k
 have ih0 := caravanref1_Mark.mono_l k
 unfold caravanref1_Mark.f
 repeat' first
  | (with_reducible exact ih0 _ _ _)
  | (with_reducible exact LeO.refl _)
  | (with_reducible exact LeO.none _)
  | (with_reducible refine LeO.ite ?_ ?_)
  | (with_reducible refine LeO.bind ?_ (fun _ => ?_))
  | exact ih0 _ _ _
  | exact LeO.none _
  | refine LeO.ite ?_ ?_
  | refine LeO.bind ?_ (fun _ => ?_)
set_option maxHeartbeats 8000000 in
set_option maxRecDepth 100000 in
theorem caravanref1_Mark.calls (k : Nat) (P0_ : Nat → Prop) (u9000_ : Value) (l0 : List Int) (a1 : Int) (r : List Int) (w0 w : World) (hB : Below w0.heap.size w0 w) (ho0 : Kd.R (Kd.int .i64) 3 w w0.heap.size P0_ u9000_ l0) (h : caravanref1_Mark.f k l0 a1 = some r) :
 Calls Tryd.prog 55 #[u9000_, .int .i64 a1] w fun e w' => ∃ v0_ : Value, e = .returned (v0_) ∧ Kd.R (Kd.int .i64) 3 w' w0.heap.size (fun k_ => (P0_ k_ ∨ w.heap.size ≤ k_)) v0_ r ∧ Below w0.heap.size w0 w' ∧ Kept w w' (fun k_ => P0_ k_) := by
 have HO0 := Aside0.mk (show Kd.R (Kd.int .i64) 3 w w0.heap.size (fun k_ => (P0_ k_ ∨ w.heap.size ≤ k_)) u9000_ l0 from Kd.R_mono ho0 (fun k_ hk => (.inl hk)))
 have HK := Aside0.mk (Kept.refl w (fun k_ => P0_ k_))
 have HW0 := Aside0.mk hB.size
 have HB := Aside0.mk hB
 clear hB
 have H : (caravanref1_Mark.l0 k l0 a1 (l0.length : Int)) = some r := h
 clear h
 have H' := Aside0.mk H
 clear H
 obtain ⟨Ao3, co3, eo3⟩ := Kd.R_slice HO0.out
 subst eo3
 go_enter Tryd.func55, Tryd.ntmps55
 go_wp2
 go_loopg [5] k (fun kq v5 w' => ∃ (x5_1 : Int), v5 = .int .i64 x5_1 ∧ Aside0 (caravanref1_Mark.l0 kq l0 a1 x5_1 = some r) ∧ Aside0 (kq ≤ k) ∧ Aside0 (Kd.R (Kd.int .i64) 3 w' w0.heap.size (fun k_ => (P0_ k_ ∨ w.heap.size ≤ k_)) (.slice Ao3 l0.length co3) l0) ∧ Aside0 (Kept w w' (fun k_ => P0_ k_)) ∧ Aside0 (Below w0.heap.size w0 w'))
 case atStart => exact ⟨((l0.length : Int)), (by first | rfl | (simp; done) | (simp [*]; done)), H', ⟨Nat.le_refl _⟩, ⟨by (with_reducible repeat (first | apply Kd.R_alloc | apply Kd.R_drewN | apply Kd.R_drew)); exact HO0.out⟩, ⟨(q8d66_ HK.out)⟩, ⟨(qdb35_ HB.out)⟩⟩
 case round =>
  clear H'
  try clear p2
  obtain ⟨x5_1, rfl, HA, HK1, HO_0, HK, HB⟩ := hrel
  cases gk with
  | zero => exact absurd HA.out (by simp [caravanref1_Mark.l0])
  | succ k1 =>
   have H := HA.out
   clear HA
   simp only [caravanref1_Mark.l0] at H
   by_cases c4 : x5_1 > 0
   ·rw [if_pos c4] at H
    have c4b0 : decide (0 < x5_1) = true := decide_eq_true c4
    clear c4
    obtain ⟨ji5, hji5⟩ : ∃ j_ : Int, (wrap64 (x5_1 - 1)) = j_ := ⟨_, rfl⟩
    replace H : (if 0 ≤ (ji5) then (if (ji5) < (l0.length : Int) then (if (rd l0 (ji5)) ≥ a1 then (caravanref1_Mark.l0 k1 l0 a1 ji5) else (if a1 < 0 then (some l0) else (if a1 > 16384 then (some l0) else (if x5_1 < (l0.length : Int) then (if 0 ≤ x5_1 then (if (rd l0 x5_1) = a1 then (some l0) else ((some (([] : List Int) : List Int)).bind fun y131 => (if x5_1 ≤ (l0.length : Int) then ((some (l0.take (x5_1 : Int).toNat : List Int)).bind fun y134 => (if y131.length + y134.length < 17592186044416 then ((some (y131 ++ y134 : List Int)).bind fun y138 => (if y138.length < 17592186044416 then ((some (y138 ++ [a1] : List Int)).bind fun y141 => ((some (l0.drop (x5_1 : Int).toNat : List Int)).bind fun y144 => (if y141.length + y144.length < 17592186044416 then (some (y141 ++ y144)) else (none)))) else (none))) else (none))) else (none)))) else (none)) else ((some (([] : List Int) : List Int)).bind fun y151 => (if 0 ≤ x5_1 then (if x5_1 ≤ (l0.length : Int) then ((some (l0.take (x5_1 : Int).toNat : List Int)).bind fun y154 => (if y151.length + y154.length < 17592186044416 then ((some (y151 ++ y154 : List Int)).bind fun y158 => (if y158.length < 17592186044416 then ((some (y158 ++ [a1] : List Int)).bind fun y161 => ((some (l0.drop (x5_1 : Int).toNat : List Int)).bind fun y164 => (if y161.length + y164.length < 17592186044416 then (some (y161 ++ y164)) else (none)))) else (none))) else (none))) else (none)) else (none))))))) else (none)) else (none)) = some r := by first | (rw [hji5] at H; exact H) | (simp only [hji5] at H ⊢; exact H)
    have hji5w : (IntKind.i64.wrap (x5_1 - 1)) = ji5 := (i64_w _).trans hji5
    by_cases c6 : 0 ≤ (ji5)
    ·rw [if_pos c6] at H
     have c6b0 : decide (0 ≤ (ji5)) = true := decide_eq_true c6
     clear c6
     by_cases c7 : (ji5) < (l0.length : Int)
     ·rw [if_pos c7] at H
      have c7b0 : decide ((ji5) < (l0.length : Int)) = true := decide_eq_true c7
      clear c7
      by_cases c8 : (rd l0 (ji5)) ≥ a1
      ·rw [if_pos c8] at H
       have c8b0 : decide (a1 ≤ (rd l0 (ji5))) = true := decide_eq_true c8
       clear c8
       have H' := Aside0.mk H
       clear H
       have p129 : 0 ≤ ((ji5) : Int) := of_decide_eq_true (by first | (with_reducible assumption) | assumption)
       have q129 : (ji5) < (l0.length : Int) := of_decide_eq_true (by first | (with_reducible assumption) | assumption)
       obtain ⟨ad129, e129, hx129_0⟩ := Kd.at_int (Kd.R_reads' HO_0.out).2.2 (ji5) p129 q129
       cases e129
       replace p129 := eq_true p129
       replace q129 := eq_true q129
       go_wp2
       go_roundg k1
       case measure => have := HK1.out; omega
       case rel => exact ⟨(ji5), (by first | rfl | (simp; done) | (simp only [← hji5] <;> (first | rfl | simp)) | (simp [*]; done)), H', ⟨by have := HK1.out; omega⟩, ⟨by (with_reducible repeat (first | apply Kd.R_alloc | apply Kd.R_drewN | apply Kd.R_drew)); exact HO_0.out⟩, ⟨(q8d66_ HK.out)⟩, ⟨(qdb35_ HB.out)⟩⟩
      ·rw [if_neg c8] at H
       have c8b0 : decide (a1 ≤ (rd l0 (ji5))) = false := decide_eq_false c8
       clear c8
       by_cases c9 : a1 < 0
       ·rw [if_pos c9] at H
        have c9b0 : decide (a1 < 0) = true := decide_eq_true c9
        clear c9
        obtain rfl := Option.some.inj H
        have p129 : 0 ≤ ((ji5) : Int) := of_decide_eq_true (by first | (with_reducible assumption) | assumption)
        have q129 : (ji5) < (l0.length : Int) := of_decide_eq_true (by first | (with_reducible assumption) | assumption)
        obtain ⟨ad129, e129, hx129_0⟩ := Kd.at_int (Kd.R_reads' HO_0.out).2.2 (ji5) p129 q129
        cases e129
        replace p129 := eq_true p129
        replace q129 := eq_true q129
        go_wp2
        go_ret
        exact ⟨_, by first | rfl | (simp [errW_none, errW_some] <;> rfl) | (simp only [← hji5]; first | rfl | (simp [errW_none, errW_some] <;> rfl)) | (simp [*, errW_none, errW_some] <;> rfl), by (with_reducible repeat (first | apply Kd.R_alloc | apply Kd.R_drewN | apply Kd.R_drew)); exact HO_0.out, (qdb35_ HB.out), (q8d66_ HK.out)⟩
       ·rw [if_neg c9] at H
        have c9b0 : decide (a1 < 0) = false := decide_eq_false c9
        clear c9
        by_cases c10 : a1 > 16384
        ·rw [if_pos c10] at H
         have c10b0 : decide (16384 < a1) = true := decide_eq_true c10
         clear c10
         obtain rfl := Option.some.inj H
         have p129 : 0 ≤ ((ji5) : Int) := of_decide_eq_true (by first | (with_reducible assumption) | assumption)
         have q129 : (ji5) < (l0.length : Int) := of_decide_eq_true (by first | (with_reducible assumption) | assumption)
         obtain ⟨ad129, e129, hx129_0⟩ := Kd.at_int (Kd.R_reads' HO_0.out).2.2 (ji5) p129 q129
         cases e129
         replace p129 := eq_true p129
         replace q129 := eq_true q129
         go_wp2
         go_ret
         exact ⟨_, by first | rfl | (simp [errW_none, errW_some] <;> rfl) | (simp only [← hji5]; first | rfl | (simp [errW_none, errW_some] <;> rfl)) | (simp [*, errW_none, errW_some] <;> rfl), by (with_reducible repeat (first | apply Kd.R_alloc | apply Kd.R_drewN | apply Kd.R_drew)); exact HO_0.out, (qdb35_ HB.out), (q8d66_ HK.out)⟩
        ·rw [if_neg c10] at H
         have c10b0 : decide (16384 < a1) = false := decide_eq_false c10
         clear c10
         by_cases c11 : x5_1 < (l0.length : Int)
         ·rw [if_pos c11] at H
          have c11b0 : decide (x5_1 < (l0.length : Int)) = true := decide_eq_true c11
          clear c11
          by_cases c12 : 0 ≤ x5_1
          ·rw [if_pos c12] at H
           have c12b0 : decide (0 ≤ x5_1) = true := decide_eq_true c12
           clear c12
           by_cases c13 : (rd l0 x5_1) = a1
           ·rw [if_pos c13] at H
            have c13b0 : ((rd l0 x5_1) == a1) = true := beq_iff_eq.mpr c13
            have c13b1 : ((rd l0 x5_1) != a1) = false := bne_eq_false_iff_eq.mpr c13
            clear c13
            obtain rfl := Option.some.inj H
            have p129 : 0 ≤ ((ji5) : Int) := of_decide_eq_true (by first | (with_reducible assumption) | assumption)
            have q129 : (ji5) < (l0.length : Int) := of_decide_eq_true (by first | (with_reducible assumption) | assumption)
            obtain ⟨ad129, e129, hx129_0⟩ := Kd.at_int (Kd.R_reads' HO_0.out).2.2 (ji5) p129 q129
            cases e129
            replace p129 := eq_true p129
            replace q129 := eq_true q129
            have p130 : 0 ≤ (x5_1 : Int) := of_decide_eq_true (by first | (with_reducible assumption) | assumption)
            have q130 : x5_1 < (l0.length : Int) := of_decide_eq_true (by first | (with_reducible assumption) | assumption)
            obtain ⟨ad130, e130, hx130_0⟩ := Kd.at_int (Kd.R_reads' HO_0.out).2.2 x5_1 p130 q130
            obtain rfl : ad129 = ad130 := (by injection e130)
            replace p130 := eq_true p130
            replace q130 := eq_true q130
            go_wp2
            go_ret
            exact ⟨_, by first | rfl | (simp [errW_none, errW_some] <;> rfl) | (simp only [← hji5]; first | rfl | (simp [errW_none, errW_some] <;> rfl)) | (simp [*, errW_none, errW_some] <;> rfl), by (with_reducible repeat (first | apply Kd.R_alloc | apply Kd.R_drewN | apply Kd.R_drew)); exact HO_0.out, (qdb35_ HB.out), (q8d66_ HK.out)⟩
           ·rw [if_neg c13] at H
            have c13b0 : ((rd l0 x5_1) == a1) = false := beq_eq_false_iff_ne.mpr c13
            have c13b1 : ((rd l0 x5_1) != a1) = true := bne_iff_ne.mpr c13
            obtain ⟨y131, hy131⟩ : ∃ y_ : List Int, y_ = (([] : List Int)) := ⟨_, rfl⟩
            replace H : (if x5_1 ≤ (l0.length : Int) then ((some (l0.take (x5_1 : Int).toNat : List Int)).bind fun y134 => (if y131.length + y134.length < 17592186044416 then ((some (y131 ++ y134 : List Int)).bind fun y138 => (if y138.length < 17592186044416 then ((some (y138 ++ [a1] : List Int)).bind fun y141 => ((some (l0.drop (x5_1 : Int).toNat : List Int)).bind fun y144 => (if y141.length + y144.length < 17592186044416 then (some (y141 ++ y144)) else (none)))) else (none))) else (none))) else (none)) = some r := by first | (rw [hy131]; with_reducible exact H) | (have H2_ := (Option.bind_some _ _).symm.trans H; rw [hy131]; with_reducible exact H2_) | (have H2_ := (Option.bind_some _ _).symm.trans H; with_reducible exact H2_) | with_reducible exact H | (rw [hy131]; exact H) | exact H
            have Ny131 := Aside0.mk hy131
            clear hy131
            have c14b0 := eq_true (of_decide_eq_true (by first | (with_reducible assumption) | assumption) : 0 ≤ x5_1)
            by_cases c15 : x5_1 ≤ (l0.length : Int)
            ·rw [if_pos c15] at H
             have c15b0 := eq_true c15
             have c15b1 : decide (x5_1 ≤ (l0.length : Int)) = true := decide_eq_true c15
             clear c15
             obtain ⟨y134, hy134⟩ : ∃ y_ : List Int, y_ = (l0.take (x5_1 : Int).toNat) := ⟨_, rfl⟩
             replace H : (if y131.length + y134.length < 17592186044416 then ((some (y131 ++ y134 : List Int)).bind fun y138 => (if y138.length < 17592186044416 then ((some (y138 ++ [a1] : List Int)).bind fun y141 => ((some (l0.drop (x5_1 : Int).toNat : List Int)).bind fun y144 => (if y141.length + y144.length < 17592186044416 then (some (y141 ++ y144)) else (none)))) else (none))) else (none)) = some r := by first | (rw [hy134]; with_reducible exact H) | (have H2_ := (Option.bind_some _ _).symm.trans H; rw [hy134]; with_reducible exact H2_) | (have H2_ := (Option.bind_some _ _).symm.trans H; with_reducible exact H2_) | with_reducible exact H | (rw [hy134]; exact H) | exact H
             have Ny134 := Aside0.mk hy134
             clear hy134
             by_cases c16 : y131.length + y134.length < 17592186044416
             ·rw [if_pos c16] at H
              have LMc16 := Aside0.mk c16
              clear c16
              obtain ⟨y138, hy138⟩ : ∃ y_ : List Int, y_ = (y131 ++ y134) := ⟨_, rfl⟩
              replace H : (if y138.length < 17592186044416 then ((some (y138 ++ [a1] : List Int)).bind fun y141 => ((some (l0.drop (x5_1 : Int).toNat : List Int)).bind fun y144 => (if y141.length + y144.length < 17592186044416 then (some (y141 ++ y144)) else (none)))) else (none)) = some r := by first | (rw [hy138]; with_reducible exact H) | (have H2_ := (Option.bind_some _ _).symm.trans H; rw [hy138]; with_reducible exact H2_) | (have H2_ := (Option.bind_some _ _).symm.trans H; with_reducible exact H2_) | with_reducible exact H | (rw [hy138]; exact H) | exact H
              have Ny138 := Aside0.mk hy138
              clear hy138
              by_cases c17 : y138.length < 17592186044416
              ·rw [if_pos c17] at H
               have LMc17 := Aside0.mk c17
               clear c17
               obtain ⟨y141, hy141⟩ : ∃ y_ : List Int, y_ = (y138 ++ [a1]) := ⟨_, rfl⟩
               replace H : ((some (l0.drop (x5_1 : Int).toNat : List Int)).bind fun y144 => (if y141.length + y144.length < 17592186044416 then (some (y141 ++ y144)) else (none))) = some r := by first | (rw [hy141]; with_reducible exact H) | (have H2_ := (Option.bind_some _ _).symm.trans H; rw [hy141]; with_reducible exact H2_) | (have H2_ := (Option.bind_some _ _).symm.trans H; with_reducible exact H2_) | with_reducible exact H | (rw [hy141]; exact H) | exact H
               have Ny141 := Aside0.mk hy141
               clear hy141
               have c18b0 := eq_true (of_decide_eq_true (by first | (with_reducible assumption) | assumption) : 0 ≤ x5_1)
               have c19b0 := eq_true (of_decide_eq_true (by first | (with_reducible assumption) | assumption) : x5_1 ≤ (l0.length : Int))
               obtain ⟨y144, hy144⟩ : ∃ y_ : List Int, y_ = (l0.drop (x5_1 : Int).toNat) := ⟨_, rfl⟩
               replace H : (if y141.length + y144.length < 17592186044416 then (some (y141 ++ y144)) else (none)) = some r := by first | (rw [hy144]; with_reducible exact H) | (have H2_ := (Option.bind_some _ _).symm.trans H; rw [hy144]; with_reducible exact H2_) | (have H2_ := (Option.bind_some _ _).symm.trans H; with_reducible exact H2_) | with_reducible exact H | (rw [hy144]; exact H) | exact H
               have Ny144 := Aside0.mk hy144
               clear hy144
               by_cases c20 : y141.length + y144.length < 17592186044416
               ·rw [if_pos c20] at H
                have LMc20 := Aside0.mk c20
                clear c20
                obtain ⟨y148, hy148⟩ : ∃ y_ : List Int, y_ = (y141 ++ y144) := ⟨_, rfl⟩
                replace H : (some y148) = some r := by first | (rw [hy148]; with_reducible exact H) | (have H2_ := (Option.bind_some _ _).symm.trans H; rw [hy148]; with_reducible exact H2_) | (have H2_ := (Option.bind_some _ _).symm.trans H; with_reducible exact H2_) | with_reducible exact H | (rw [hy148]; exact H) | exact H
                have Ny148 := Aside0.mk hy148
                clear hy148
                obtain rfl := Option.some.inj H
                have p129 : 0 ≤ ((ji5) : Int) := of_decide_eq_true (by first | (with_reducible assumption) | assumption)
                have q129 : (ji5) < (l0.length : Int) := of_decide_eq_true (by first | (with_reducible assumption) | assumption)
                obtain ⟨ad129, e129, hx129_0⟩ := Kd.at_int (Kd.R_reads' HO_0.out).2.2 (ji5) p129 q129
                cases e129
                replace p129 := eq_true p129
                replace q129 := eq_true q129
                have p130 : 0 ≤ (x5_1 : Int) := of_decide_eq_true (by first | (with_reducible assumption) | assumption)
                have q130 : x5_1 < (l0.length : Int) := of_decide_eq_true (by first | (with_reducible assumption) | assumption)
                obtain ⟨ad130, e130, hx130_0⟩ := Kd.at_int (Kd.R_reads' HO_0.out).2.2 x5_1 p130 q130
                obtain rfl : ad129 = ad130 := (by injection e130)
                replace p130 := eq_true p130
                replace q130 := eq_true q130
                go_wp2_with (first | ((with_reducible refine gate_dst (N := 43) rfl ?_); (try (refine gate_guard (by rfl) ?_; dsimp only)); refine Kd.R_lit (Kd.int .i64) _ 3 ?hg (N := 43) ?hd (xs := ([] : List Int)) (inner := []) (ok := fun _ => True) (okp := fun _ => True) ?hr ?hp (fun _ hk => hk) trivial (Below.refl _ _) (Nat.le_refl _) (by simp) ?_; (case hd => rfl); (case hg => rfl); (case hr => first | (go_simp; done) | (go_simp; rfl)); (case hp => exact (Reps.none _ _)); intro v132 w21 ho22 hb hg_ hnew_; clear hg_ hnew_; (first | rw [← Ny131.out] at ho22 | (simp only [Int.reduceToNat] at ho22; rw [← Ny131.out] at ho22)); have n0_ := Aside0.mk (Kd.R_elder' (q8524_ HO_0.out) (Kd.R_base ho22) hb); have n1_ := Aside0.mk (Kd.R_lower (Kd.R_new' (Kd.R_newM (M := fun k_ => (P0_ k_ ∨ w.heap.size ≤ k_)) ho22 (by first | exact HK.out.1 | exact (show Kept w _ (fun k_ => P0_ k_) from (q8d66_ HK.out)).1) (fun k_ h_ => .inr h_)) (Kd.R_lt (q8524_ HO_0.out))) (below_size (qdb35_ HB.out))); have n2_ := Aside0.mk (Kept.below (S := (fun k_ => P0_ k_)) (q8d66_ HK.out) hb); have n3_ := Aside0.mk (below_step (qdb35_ HB.out) hb); clear HO_0; clear HK; clear HB; have HO_0 := n0_; have HO133 := n1_; have HK := n2_; have HB := n3_; clear n0_ n1_ n2_ n3_; clear hb ho22; have q23 : (x5_1 : Int) ≤ ((l0.length : Int) : Int) := of_decide_eq_true (by first | (with_reducible assumption) | assumption); obtain ⟨i023, hi023, _, hsz23, _⟩ := info_parts info3; have hroom23 : l0.length ≤ co3 := (Kd.R_reads' HO_0.out).2.1; have hC23 : Kd.C (Kd.int .i64) _ (some ad129) l0.length l0 := (Kd.R_reads' HO_0.out).2.2; have hcut23 := cut_to (P := Tryd.prog) 61 3 .i64 Tryd.underlying61 hi023 (some ad129) l0.length co3 x5_1 (of_decide_eq_true (by first | (with_reducible assumption) | assumption)) q23 hroom23; have hr23 := Kd.C_take (m := (x5_1 : Int).toNat) hC23 (by omega); have hy23 : y134.length = (x5_1 : Int).toNat := (by rw [Ny134.out, List.length_take]; omega); rw [← Ny134.out] at hr23; rw [← hy23] at hcut23; have HR137 := Aside0.mk hr23; have HC137 := Aside0.mk (show y134.length ≤ co3 from by omega); clear hr23 hC23 hroom23 hi023 hsz23; have KY23 := Aside0.mk hy23; clear hy23; have KL23 := Aside0.mk (show (x5_1 : Int).toNat ≤ l0.length from by omega); replace q23 := eq_true q23) | ((with_reducible refine gate_builtin (b := .append) (xs := #[.tmp 43, .tmp 46]) rfl ?_); (try (refine gate_guard (by rfl) ?_; dsimp only)); at_builtin; refine Kd.R_append_rows (Kd.int .i64) (w0 := w0) w0.heap.size rfl (.tmp 43) (.tmp 46) 61 3 (.int .i64 0) 8 rfl Tryd.underlying61 info3 rfl (by decide) (by omega) v132 y131 y134 _ _ _ (fun k_ => (P0_ k_ ∨ w.heap.size ≤ k_) ∧ some k_ ≠ (.slice (some ad129) l0.length co3 : Value).ownBlock) (fun _ => False) rfl rfl ?aO ?aR (fun _ _ h => h) (fun _ h => h.elim) ?aF ?aB ?aS ?aL ?_; (case aR => repeat (first | exact (q3f7a_ HR137.out) | (with_reducible refine Kd.C_alloc ?_ _) | (with_reducible refine Kd.C_drewN ?_ _) | (with_reducible refine Kd.C_drew ?_))); (case aB => exact (qdb35_ HB.out)); (case aF => exact (fun k_ hk => ⟨(.inr (Nat.le_trans (by first | exact HK.out.1 | exact (show Kept w _ (fun k_ => P0_ k_) from (q8d66_ HK.out)).1) hk)), Kd.fresh' (Kd.R_lt (q8524_ HO_0.out)) k_ hk⟩)); (case aO => exact (by (with_reducible repeat (first | apply Kd.R_alloc | apply Kd.R_drewN | apply Kd.R_drew)); exact Kd.R_mono HO133.out (fun _ hk => ⟨hk.1.1, hk.2⟩))); (case aS => exact (below_size (qdb35_ HB.out))); (case aL => have := LMc16.out; omega); intro v139 w24 ho hb hg hat; rw [← Ny138.out] at ho; have n0_ := Aside0.mk (Kd.R_after (ok := (fun k_ => (P0_ k_ ∨ w.heap.size ≤ k_))) (q8524_ HO_0.out) hg hat); have n1_ := Aside0.mk (hb); have n2_ := Aside0.mk (Kept.of_grown (S := (fun k_ => P0_ k_)) hg (q8d66_ HK.out) (fun k_ e_ => (HO133.out.1 k_ e_).1.1)); have n3_ := Aside0.mk ((show Kd.C (Kd.int .i64) w24 (some ad129) y134.length y134 from by rw [Ny134.out]; exact Kd.C_take (m := (x5_1 : Int).toNat) ((Kd.R_reads' (Kd.R_after (ok := (fun k_ => (P0_ k_ ∨ w.heap.size ≤ k_))) (q8524_ HO_0.out) hg hat)).2.2) KL23.out)); have n4_ := Aside0.mk (ho); clear HO_0; clear HB; clear HK; clear HR137; clear HO133; have HO_0 := n0_; have HB := n1_; have HK := n2_; have HR137 := n3_; have HO140 := n4_; clear n0_ n1_ n2_ n3_ n4_; clear ho hb hg hat) | ((with_reducible refine gate_builtin (b := .append) (xs := #[.tmp 48, .tmp 50]) rfl ?_); (try (refine gate_guard (by rfl) ?_; dsimp only)); at_builtin; refine Kd.R_append (Kd.int .i64) (w0 := w0) w0.heap.size rfl (.tmp 48) (.tmp 50) 61 3 (.int .i64 0) 8 rfl Tryd.underlying61 info3 rfl (by decide) (by omega) v139 y138 a1 [.int .i64 a1] (fun k_ => (P0_ k_ ∨ w.heap.size ≤ k_) ∧ some k_ ≠ (.slice (some ad129) l0.length co3 : Value).ownBlock) (fun _ => False) rfl rfl ?aP (fun _ hk => hk.elim) ?aF ?aO ?aB ?aS ?aL ?_; (case aP => exact rfl); (case aB => exact (qdb35_ HB.out)); (case aF => exact (fun k_ hk => ⟨(.inr (Nat.le_trans (by first | exact HK.out.1 | exact (show Kept w _ (fun k_ => P0_ k_) from (q8d66_ HK.out)).1) hk)), Kd.fresh' (Kd.R_lt (q8524_ HO_0.out)) k_ hk⟩)); (case aO => exact (q8524_ HO140.out)); (case aS => exact (below_size (qdb35_ HB.out))); (case aL => have := LMc17.out; omega); intro v142 w25 ho hb hg hat; rw [← Ny141.out] at ho; have n0_ := Aside0.mk (Kd.R_after (ok := (fun k_ => (P0_ k_ ∨ w.heap.size ≤ k_))) (q8524_ HO_0.out) hg hat); have n1_ := Aside0.mk (hb); have n2_ := Aside0.mk (Kept.of_grown (S := (fun k_ => P0_ k_)) hg (q8d66_ HK.out) (fun k_ e_ => (HO140.out.1 k_ e_).1)); have n3_ := Aside0.mk ((show Kd.C (Kd.int .i64) w25 (some ad129) y134.length y134 from by rw [Ny134.out]; exact Kd.C_take (m := (x5_1 : Int).toNat) ((Kd.R_reads' (Kd.R_after (ok := (fun k_ => (P0_ k_ ∨ w.heap.size ≤ k_))) (q8524_ HO_0.out) hg hat)).2.2) KL23.out)); have n4_ := Aside0.mk (ho); clear HO_0; clear HB; clear HK; clear HR137; clear HO140; have HO_0 := n0_; have HB := n1_; have HK := n2_; have HR137 := n3_; have HO143 := n4_; clear n0_ n1_ n2_ n3_ n4_; clear ho hb hg hat; have q26 : (x5_1 : Int) ≤ ((l0.length : Int) : Int) := of_decide_eq_true (by first | (with_reducible assumption) | assumption); obtain ⟨i026, hi026, _, hsz26, _⟩ := info_parts info3; have hroom26 : l0.length ≤ co3 := (Kd.R_reads' HO_0.out).2.1; have hC26 : Kd.C (Kd.int .i64) _ (some ad129) l0.length l0 := (Kd.R_reads' HO_0.out).2.2; have q026 : (0 : Int) ≤ (x5_1 : Int) := of_decide_eq_true (by first | (with_reducible assumption) | assumption); have hcut26 := cut_from (P := Tryd.prog) 61 3 .i64 Tryd.underlying61 hi026 1 hsz26 (some ad129) l0.length co3 x5_1 q026 q26; have hr26 := Kd.C_drop (m := (x5_1 : Int).toNat) (c := co3) hC26 (by omega) hroom26; obtain ⟨A26, hA26⟩ : ∃ A1, A1 = (if co3 = (x5_1 : Int).toNat then (some ad129) else ((some ad129) : Option Addr).map (·.add ((x5_1 : Int).toNat * 1))) := ⟨_, rfl⟩; obtain ⟨c26, hc26⟩ : ∃ c1, c1 = co3 - (x5_1 : Int).toNat := ⟨_, rfl⟩; have hy26 : y144.length = l0.length - (x5_1 : Int).toNat := (by rw [Ny144.out, List.length_drop] <;> omega); rw [show (l0).drop (x5_1 : Int).toNat = y144 from Ny144.out.symm] at hr26; replace hr26 : Kd.C (Kd.int .i64) _ A26 y144.length y144 := (by rw [hA26]; exact hr26); rw [← hy26, ← hA26, ← hc26] at hcut26; have HR147 := Aside0.mk hr26; have HC147 := Aside0.mk (show y144.length ≤ c26 from by rw [hy26, hc26]; exact Nat.sub_le_sub_right hroom26 _); clear hr26 hC26 hroom26 hi026 hsz26 hc26; have KY26 := Aside0.mk hy26; have KA26 := Aside0.mk hA26; clear hy26 hA26; have KL26 := Aside0.mk (show (x5_1 : Int).toNat ≤ l0.length from by omega); replace q26 := eq_true q26) | ((with_reducible refine gate_builtin (b := .append) (xs := #[.tmp 52, .tmp 55]) rfl ?_); (try (refine gate_guard (by rfl) ?_; dsimp only)); at_builtin; refine Kd.R_append_rows (Kd.int .i64) (w0 := w0) w0.heap.size rfl (.tmp 52) (.tmp 55) 61 3 (.int .i64 0) 8 rfl Tryd.underlying61 info3 rfl (by decide) (by omega) v142 y141 y144 _ _ _ (fun k_ => (P0_ k_ ∨ w.heap.size ≤ k_) ∧ some k_ ≠ (.slice (some ad129) l0.length co3 : Value).ownBlock) (fun _ => False) rfl rfl ?aO ?aR (fun _ _ h => h) (fun _ h => h.elim) ?aF ?aB ?aS ?aL ?_; (case aR => repeat (first | exact (q3f7a_ HR147.out) | (with_reducible refine Kd.C_alloc ?_ _) | (with_reducible refine Kd.C_drewN ?_ _) | (with_reducible refine Kd.C_drew ?_))); (case aB => exact (qdb35_ HB.out)); (case aF => exact (fun k_ hk => ⟨(.inr (Nat.le_trans (by first | exact HK.out.1 | exact (show Kept w _ (fun k_ => P0_ k_) from (q8d66_ HK.out)).1) hk)), Kd.fresh' (Kd.R_lt (q8524_ HO_0.out)) k_ hk⟩)); (case aO => exact (q8524_ HO143.out)); (case aS => exact (below_size (qdb35_ HB.out))); (case aL => have := LMc20.out; omega); intro v149 w27 ho hb hg hat; rw [← Ny148.out] at ho; have n0_ := Aside0.mk (Kd.R_after (ok := (fun k_ => (P0_ k_ ∨ w.heap.size ≤ k_))) (q8524_ HO_0.out) hg hat); have n1_ := Aside0.mk (hb); have n2_ := Aside0.mk (Kept.of_grown (S := (fun k_ => P0_ k_)) hg (q8d66_ HK.out) (fun k_ e_ => (HO143.out.1 k_ e_).1)); have n3_ := Aside0.mk ((show Kd.C (Kd.int .i64) w27 (some ad129) y134.length y134 from by rw [Ny134.out]; exact Kd.C_take (m := (x5_1 : Int).toNat) ((Kd.R_reads' (Kd.R_after (ok := (fun k_ => (P0_ k_ ∨ w.heap.size ≤ k_))) (q8524_ HO_0.out) hg hat)).2.2) KL23.out)); have n4_ := Aside0.mk ((show Kd.C (Kd.int .i64) w27 A26 y144.length y144 from by rw [Ny144.out, KA26.out]; exact Kd.C_drop (m := (x5_1 : Int).toNat) (c := co3) ((Kd.R_reads' (Kd.R_after (ok := (fun k_ => (P0_ k_ ∨ w.heap.size ≤ k_))) (q8524_ HO_0.out) hg hat)).2.2) KL26.out ((Kd.R_reads' (Kd.R_after (ok := (fun k_ => (P0_ k_ ∨ w.heap.size ≤ k_))) (q8524_ HO_0.out) hg hat)).2.1))); have n5_ := Aside0.mk (ho); clear HO_0; clear HB; clear HK; clear HR137; clear HR147; clear HO143; have HO_0 := n0_; have HB := n1_; have HK := n2_; have HR137 := n3_; have HR147 := n4_; have HO150 := n5_; clear n0_ n1_ n2_ n3_ n4_ n5_; clear ho hb hg hat))
                go_ret
                exact ⟨_, by first | rfl | (simp [errW_none, errW_some] <;> rfl) | (simp only [← hji5]; first | rfl | (simp [errW_none, errW_some] <;> rfl)) | (simp [*, errW_none, errW_some] <;> rfl), by (with_reducible repeat (first | apply Kd.R_alloc | apply Kd.R_drewN | apply Kd.R_drew)); exact Kd.R_mono HO150.out (fun _ hk => hk.1), (qdb35_ HB.out), (q8d66_ HK.out)⟩
               ·rw [if_neg c20] at H
                exact absurd H (by simp)
              ·rw [if_neg c17] at H
               exact absurd H (by simp)
             ·rw [if_neg c16] at H
              exact absurd H (by simp)
            ·rw [if_neg c15] at H
             exact absurd H (by simp)
          ·rw [if_neg c12] at H
           exact absurd H (by simp)
         ·rw [if_neg c11] at H
          have c11b0 : decide (x5_1 < (l0.length : Int)) = false := decide_eq_false c11
          clear c11
          obtain ⟨y151, hy151⟩ : ∃ y_ : List Int, y_ = (([] : List Int)) := ⟨_, rfl⟩
          replace H : (if 0 ≤ x5_1 then (if x5_1 ≤ (l0.length : Int) then ((some (l0.take (x5_1 : Int).toNat : List Int)).bind fun y154 => (if y151.length + y154.length < 17592186044416 then ((some (y151 ++ y154 : List Int)).bind fun y158 => (if y158.length < 17592186044416 then ((some (y158 ++ [a1] : List Int)).bind fun y161 => ((some (l0.drop (x5_1 : Int).toNat : List Int)).bind fun y164 => (if y161.length + y164.length < 17592186044416 then (some (y161 ++ y164)) else (none)))) else (none))) else (none))) else (none)) else (none)) = some r := by first | (rw [hy151]; with_reducible exact H) | (have H2_ := (Option.bind_some _ _).symm.trans H; rw [hy151]; with_reducible exact H2_) | (have H2_ := (Option.bind_some _ _).symm.trans H; with_reducible exact H2_) | with_reducible exact H | (rw [hy151]; exact H) | exact H
          have Ny151 := Aside0.mk hy151
          clear hy151
          by_cases c28 : 0 ≤ x5_1
          ·rw [if_pos c28] at H
           have c28b0 := eq_true c28
           have c28b1 : decide (0 ≤ x5_1) = true := decide_eq_true c28
           clear c28
           by_cases c29 : x5_1 ≤ (l0.length : Int)
           ·rw [if_pos c29] at H
            have c29b0 := eq_true c29
            have c29b1 : decide (x5_1 ≤ (l0.length : Int)) = true := decide_eq_true c29
            clear c29
            obtain ⟨y154, hy154⟩ : ∃ y_ : List Int, y_ = (l0.take (x5_1 : Int).toNat) := ⟨_, rfl⟩
            replace H : (if y151.length + y154.length < 17592186044416 then ((some (y151 ++ y154 : List Int)).bind fun y158 => (if y158.length < 17592186044416 then ((some (y158 ++ [a1] : List Int)).bind fun y161 => ((some (l0.drop (x5_1 : Int).toNat : List Int)).bind fun y164 => (if y161.length + y164.length < 17592186044416 then (some (y161 ++ y164)) else (none)))) else (none))) else (none)) = some r := by first | (rw [hy154]; with_reducible exact H) | (have H2_ := (Option.bind_some _ _).symm.trans H; rw [hy154]; with_reducible exact H2_) | (have H2_ := (Option.bind_some _ _).symm.trans H; with_reducible exact H2_) | with_reducible exact H | (rw [hy154]; exact H) | exact H
            have Ny154 := Aside0.mk hy154
            clear hy154
            by_cases c30 : y151.length + y154.length < 17592186044416
            ·rw [if_pos c30] at H
             have LMc30 := Aside0.mk c30
             clear c30
             obtain ⟨y158, hy158⟩ : ∃ y_ : List Int, y_ = (y151 ++ y154) := ⟨_, rfl⟩
             replace H : (if y158.length < 17592186044416 then ((some (y158 ++ [a1] : List Int)).bind fun y161 => ((some (l0.drop (x5_1 : Int).toNat : List Int)).bind fun y164 => (if y161.length + y164.length < 17592186044416 then (some (y161 ++ y164)) else (none)))) else (none)) = some r := by first | (rw [hy158]; with_reducible exact H) | (have H2_ := (Option.bind_some _ _).symm.trans H; rw [hy158]; with_reducible exact H2_) | (have H2_ := (Option.bind_some _ _).symm.trans H; with_reducible exact H2_) | with_reducible exact H | (rw [hy158]; exact H) | exact H
             have Ny158 := Aside0.mk hy158
             clear hy158
             by_cases c31 : y158.length < 17592186044416
             ·rw [if_pos c31] at H
              have LMc31 := Aside0.mk c31
              clear c31
              obtain ⟨y161, hy161⟩ : ∃ y_ : List Int, y_ = (y158 ++ [a1]) := ⟨_, rfl⟩
              replace H : ((some (l0.drop (x5_1 : Int).toNat : List Int)).bind fun y164 => (if y161.length + y164.length < 17592186044416 then (some (y161 ++ y164)) else (none))) = some r := by first | (rw [hy161]; with_reducible exact H) | (have H2_ := (Option.bind_some _ _).symm.trans H; rw [hy161]; with_reducible exact H2_) | (have H2_ := (Option.bind_some _ _).symm.trans H; with_reducible exact H2_) | with_reducible exact H | (rw [hy161]; exact H) | exact H
              have Ny161 := Aside0.mk hy161
              clear hy161
              have c32b0 := eq_true (of_decide_eq_true (by first | (with_reducible assumption) | assumption) : 0 ≤ x5_1)
              have c33b0 := eq_true (of_decide_eq_true (by first | (with_reducible assumption) | assumption) : x5_1 ≤ (l0.length : Int))
              obtain ⟨y164, hy164⟩ : ∃ y_ : List Int, y_ = (l0.drop (x5_1 : Int).toNat) := ⟨_, rfl⟩
              replace H : (if y161.length + y164.length < 17592186044416 then (some (y161 ++ y164)) else (none)) = some r := by first | (rw [hy164]; with_reducible exact H) | (have H2_ := (Option.bind_some _ _).symm.trans H; rw [hy164]; with_reducible exact H2_) | (have H2_ := (Option.bind_some _ _).symm.trans H; with_reducible exact H2_) | with_reducible exact H | (rw [hy164]; exact H) | exact H
              have Ny164 := Aside0.mk hy164
              clear hy164
              by_cases c34 : y161.length + y164.length < 17592186044416
              ·rw [if_pos c34] at H
               have LMc34 := Aside0.mk c34
               clear c34
               obtain ⟨y168, hy168⟩ : ∃ y_ : List Int, y_ = (y161 ++ y164) := ⟨_, rfl⟩
               replace H : (some y168) = some r := by first | (rw [hy168]; with_reducible exact H) | (have H2_ := (Option.bind_some _ _).symm.trans H; rw [hy168]; with_reducible exact H2_) | (have H2_ := (Option.bind_some _ _).symm.trans H; with_reducible exact H2_) | with_reducible exact H | (rw [hy168]; exact H) | exact H
               have Ny168 := Aside0.mk hy168
               clear hy168
               obtain rfl := Option.some.inj H
               have p129 : 0 ≤ ((ji5) : Int) := of_decide_eq_true (by first | (with_reducible assumption) | assumption)
               have q129 : (ji5) < (l0.length : Int) := of_decide_eq_true (by first | (with_reducible assumption) | assumption)
               obtain ⟨ad129, e129, hx129_0⟩ := Kd.at_int (Kd.R_reads' HO_0.out).2.2 (ji5) p129 q129
               cases e129
               replace p129 := eq_true p129
               replace q129 := eq_true q129
               go_wp2_with (first | ((with_reducible refine gate_dst (N := 43) rfl ?_); (try (refine gate_guard (by rfl) ?_; dsimp only)); refine Kd.R_lit (Kd.int .i64) _ 3 ?hg (N := 43) ?hd (xs := ([] : List Int)) (inner := []) (ok := fun _ => True) (okp := fun _ => True) ?hr ?hp (fun _ hk => hk) trivial (Below.refl _ _) (Nat.le_refl _) (by simp) ?_; (case hd => rfl); (case hg => rfl); (case hr => first | (go_simp; done) | (go_simp; rfl)); (case hp => exact (Reps.none _ _)); intro v152 w35 ho36 hb hg_ hnew_; clear hg_ hnew_; (first | rw [← Ny151.out] at ho36 | (simp only [Int.reduceToNat] at ho36; rw [← Ny151.out] at ho36)); have n0_ := Aside0.mk (Kd.R_elder' (q8524_ HO_0.out) (Kd.R_base ho36) hb); have n1_ := Aside0.mk (Kd.R_lower (Kd.R_new' (Kd.R_newM (M := fun k_ => (P0_ k_ ∨ w.heap.size ≤ k_)) ho36 (by first | exact HK.out.1 | exact (show Kept w _ (fun k_ => P0_ k_) from (q8d66_ HK.out)).1) (fun k_ h_ => .inr h_)) (Kd.R_lt (q8524_ HO_0.out))) (below_size (qdb35_ HB.out))); have n2_ := Aside0.mk (Kept.below (S := (fun k_ => P0_ k_)) (q8d66_ HK.out) hb); have n3_ := Aside0.mk (below_step (qdb35_ HB.out) hb); clear HO_0; clear HK; clear HB; have HO_0 := n0_; have HO153 := n1_; have HK := n2_; have HB := n3_; clear n0_ n1_ n2_ n3_; clear hb ho36; have q37 : (x5_1 : Int) ≤ ((l0.length : Int) : Int) := of_decide_eq_true (by first | (with_reducible assumption) | assumption); obtain ⟨i037, hi037, _, hsz37, _⟩ := info_parts info3; have hroom37 : l0.length ≤ co3 := (Kd.R_reads' HO_0.out).2.1; have hC37 : Kd.C (Kd.int .i64) _ (some ad129) l0.length l0 := (Kd.R_reads' HO_0.out).2.2; have hcut37 := cut_to (P := Tryd.prog) 61 3 .i64 Tryd.underlying61 hi037 (some ad129) l0.length co3 x5_1 (of_decide_eq_true (by first | (with_reducible assumption) | assumption)) q37 hroom37; have hr37 := Kd.C_take (m := (x5_1 : Int).toNat) hC37 (by omega); have hy37 : y154.length = (x5_1 : Int).toNat := (by rw [Ny154.out, List.length_take]; omega); rw [← Ny154.out] at hr37; rw [← hy37] at hcut37; have HR157 := Aside0.mk hr37; have HC157 := Aside0.mk (show y154.length ≤ co3 from by omega); clear hr37 hC37 hroom37 hi037 hsz37; have KY37 := Aside0.mk hy37; clear hy37; have KL37 := Aside0.mk (show (x5_1 : Int).toNat ≤ l0.length from by omega); replace q37 := eq_true q37) | ((with_reducible refine gate_builtin (b := .append) (xs := #[.tmp 43, .tmp 46]) rfl ?_); (try (refine gate_guard (by rfl) ?_; dsimp only)); at_builtin; refine Kd.R_append_rows (Kd.int .i64) (w0 := w0) w0.heap.size rfl (.tmp 43) (.tmp 46) 61 3 (.int .i64 0) 8 rfl Tryd.underlying61 info3 rfl (by decide) (by omega) v152 y151 y154 _ _ _ (fun k_ => (P0_ k_ ∨ w.heap.size ≤ k_) ∧ some k_ ≠ (.slice (some ad129) l0.length co3 : Value).ownBlock) (fun _ => False) rfl rfl ?aO ?aR (fun _ _ h => h) (fun _ h => h.elim) ?aF ?aB ?aS ?aL ?_; (case aR => repeat (first | exact (q3f7a_ HR157.out) | (with_reducible refine Kd.C_alloc ?_ _) | (with_reducible refine Kd.C_drewN ?_ _) | (with_reducible refine Kd.C_drew ?_))); (case aB => exact (qdb35_ HB.out)); (case aF => exact (fun k_ hk => ⟨(.inr (Nat.le_trans (by first | exact HK.out.1 | exact (show Kept w _ (fun k_ => P0_ k_) from (q8d66_ HK.out)).1) hk)), Kd.fresh' (Kd.R_lt (q8524_ HO_0.out)) k_ hk⟩)); (case aO => exact (by (with_reducible repeat (first | apply Kd.R_alloc | apply Kd.R_drewN | apply Kd.R_drew)); exact Kd.R_mono HO153.out (fun _ hk => ⟨hk.1.1, hk.2⟩))); (case aS => exact (below_size (qdb35_ HB.out))); (case aL => have := LMc30.out; omega); intro v159 w38 ho hb hg hat; rw [← Ny158.out] at ho; have n0_ := Aside0.mk (Kd.R_after (ok := (fun k_ => (P0_ k_ ∨ w.heap.size ≤ k_))) (q8524_ HO_0.out) hg hat); have n1_ := Aside0.mk (hb); have n2_ := Aside0.mk (Kept.of_grown (S := (fun k_ => P0_ k_)) hg (q8d66_ HK.out) (fun k_ e_ => (HO153.out.1 k_ e_).1.1)); have n3_ := Aside0.mk ((show Kd.C (Kd.int .i64) w38 (some ad129) y154.length y154 from by rw [Ny154.out]; exact Kd.C_take (m := (x5_1 : Int).toNat) ((Kd.R_reads' (Kd.R_after (ok := (fun k_ => (P0_ k_ ∨ w.heap.size ≤ k_))) (q8524_ HO_0.out) hg hat)).2.2) KL37.out)); have n4_ := Aside0.mk (ho); clear HO_0; clear HB; clear HK; clear HR157; clear HO153; have HO_0 := n0_; have HB := n1_; have HK := n2_; have HR157 := n3_; have HO160 := n4_; clear n0_ n1_ n2_ n3_ n4_; clear ho hb hg hat) | ((with_reducible refine gate_builtin (b := .append) (xs := #[.tmp 48, .tmp 50]) rfl ?_); (try (refine gate_guard (by rfl) ?_; dsimp only)); at_builtin; refine Kd.R_append (Kd.int .i64) (w0 := w0) w0.heap.size rfl (.tmp 48) (.tmp 50) 61 3 (.int .i64 0) 8 rfl Tryd.underlying61 info3 rfl (by decide) (by omega) v159 y158 a1 [.int .i64 a1] (fun k_ => (P0_ k_ ∨ w.heap.size ≤ k_) ∧ some k_ ≠ (.slice (some ad129) l0.length co3 : Value).ownBlock) (fun _ => False) rfl rfl ?aP (fun _ hk => hk.elim) ?aF ?aO ?aB ?aS ?aL ?_; (case aP => exact rfl); (case aB => exact (qdb35_ HB.out)); (case aF => exact (fun k_ hk => ⟨(.inr (Nat.le_trans (by first | exact HK.out.1 | exact (show Kept w _ (fun k_ => P0_ k_) from (q8d66_ HK.out)).1) hk)), Kd.fresh' (Kd.R_lt (q8524_ HO_0.out)) k_ hk⟩)); (case aO => exact (q8524_ HO160.out)); (case aS => exact (below_size (qdb35_ HB.out))); (case aL => have := LMc31.out; omega); intro v162 w39 ho hb hg hat; rw [← Ny161.out] at ho; have n0_ := Aside0.mk (Kd.R_after (ok := (fun k_ => (P0_ k_ ∨ w.heap.size ≤ k_))) (q8524_ HO_0.out) hg hat); have n1_ := Aside0.mk (hb); have n2_ := Aside0.mk (Kept.of_grown (S := (fun k_ => P0_ k_)) hg (q8d66_ HK.out) (fun k_ e_ => (HO160.out.1 k_ e_).1)); have n3_ := Aside0.mk ((show Kd.C (Kd.int .i64) w39 (some ad129) y154.length y154 from by rw [Ny154.out]; exact Kd.C_take (m := (x5_1 : Int).toNat) ((Kd.R_reads' (Kd.R_after (ok := (fun k_ => (P0_ k_ ∨ w.heap.size ≤ k_))) (q8524_ HO_0.out) hg hat)).2.2) KL37.out)); have n4_ := Aside0.mk (ho); clear HO_0; clear HB; clear HK; clear HR157; clear HO160; have HO_0 := n0_; have HB := n1_; have HK := n2_; have HR157 := n3_; have HO163 := n4_; clear n0_ n1_ n2_ n3_ n4_; clear ho hb hg hat; have q40 : (x5_1 : Int) ≤ ((l0.length : Int) : Int) := of_decide_eq_true (by first | (with_reducible assumption) | assumption); obtain ⟨i040, hi040, _, hsz40, _⟩ := info_parts info3; have hroom40 : l0.length ≤ co3 := (Kd.R_reads' HO_0.out).2.1; have hC40 : Kd.C (Kd.int .i64) _ (some ad129) l0.length l0 := (Kd.R_reads' HO_0.out).2.2; have q040 : (0 : Int) ≤ (x5_1 : Int) := of_decide_eq_true (by first | (with_reducible assumption) | assumption); have hcut40 := cut_from (P := Tryd.prog) 61 3 .i64 Tryd.underlying61 hi040 1 hsz40 (some ad129) l0.length co3 x5_1 q040 q40; have hr40 := Kd.C_drop (m := (x5_1 : Int).toNat) (c := co3) hC40 (by omega) hroom40; obtain ⟨A40, hA40⟩ : ∃ A1, A1 = (if co3 = (x5_1 : Int).toNat then (some ad129) else ((some ad129) : Option Addr).map (·.add ((x5_1 : Int).toNat * 1))) := ⟨_, rfl⟩; obtain ⟨c40, hc40⟩ : ∃ c1, c1 = co3 - (x5_1 : Int).toNat := ⟨_, rfl⟩; have hy40 : y164.length = l0.length - (x5_1 : Int).toNat := (by rw [Ny164.out, List.length_drop] <;> omega); rw [show (l0).drop (x5_1 : Int).toNat = y164 from Ny164.out.symm] at hr40; replace hr40 : Kd.C (Kd.int .i64) _ A40 y164.length y164 := (by rw [hA40]; exact hr40); rw [← hy40, ← hA40, ← hc40] at hcut40; have HR167 := Aside0.mk hr40; have HC167 := Aside0.mk (show y164.length ≤ c40 from by rw [hy40, hc40]; exact Nat.sub_le_sub_right hroom40 _); clear hr40 hC40 hroom40 hi040 hsz40 hc40; have KY40 := Aside0.mk hy40; have KA40 := Aside0.mk hA40; clear hy40 hA40; have KL40 := Aside0.mk (show (x5_1 : Int).toNat ≤ l0.length from by omega); replace q40 := eq_true q40) | ((with_reducible refine gate_builtin (b := .append) (xs := #[.tmp 52, .tmp 55]) rfl ?_); (try (refine gate_guard (by rfl) ?_; dsimp only)); at_builtin; refine Kd.R_append_rows (Kd.int .i64) (w0 := w0) w0.heap.size rfl (.tmp 52) (.tmp 55) 61 3 (.int .i64 0) 8 rfl Tryd.underlying61 info3 rfl (by decide) (by omega) v162 y161 y164 _ _ _ (fun k_ => (P0_ k_ ∨ w.heap.size ≤ k_) ∧ some k_ ≠ (.slice (some ad129) l0.length co3 : Value).ownBlock) (fun _ => False) rfl rfl ?aO ?aR (fun _ _ h => h) (fun _ h => h.elim) ?aF ?aB ?aS ?aL ?_; (case aR => repeat (first | exact (q3f7a_ HR167.out) | (with_reducible refine Kd.C_alloc ?_ _) | (with_reducible refine Kd.C_drewN ?_ _) | (with_reducible refine Kd.C_drew ?_))); (case aB => exact (qdb35_ HB.out)); (case aF => exact (fun k_ hk => ⟨(.inr (Nat.le_trans (by first | exact HK.out.1 | exact (show Kept w _ (fun k_ => P0_ k_) from (q8d66_ HK.out)).1) hk)), Kd.fresh' (Kd.R_lt (q8524_ HO_0.out)) k_ hk⟩)); (case aO => exact (q8524_ HO163.out)); (case aS => exact (below_size (qdb35_ HB.out))); (case aL => have := LMc34.out; omega); intro v169 w41 ho hb hg hat; rw [← Ny168.out] at ho; have n0_ := Aside0.mk (Kd.R_after (ok := (fun k_ => (P0_ k_ ∨ w.heap.size ≤ k_))) (q8524_ HO_0.out) hg hat); have n1_ := Aside0.mk (hb); have n2_ := Aside0.mk (Kept.of_grown (S := (fun k_ => P0_ k_)) hg (q8d66_ HK.out) (fun k_ e_ => (HO163.out.1 k_ e_).1)); have n3_ := Aside0.mk ((show Kd.C (Kd.int .i64) w41 (some ad129) y154.length y154 from by rw [Ny154.out]; exact Kd.C_take (m := (x5_1 : Int).toNat) ((Kd.R_reads' (Kd.R_after (ok := (fun k_ => (P0_ k_ ∨ w.heap.size ≤ k_))) (q8524_ HO_0.out) hg hat)).2.2) KL37.out)); have n4_ := Aside0.mk ((show Kd.C (Kd.int .i64) w41 A40 y164.length y164 from by rw [Ny164.out, KA40.out]; exact Kd.C_drop (m := (x5_1 : Int).toNat) (c := co3) ((Kd.R_reads' (Kd.R_after (ok := (fun k_ => (P0_ k_ ∨ w.heap.size ≤ k_))) (q8524_ HO_0.out) hg hat)).2.2) KL40.out ((Kd.R_reads' (Kd.R_after (ok := (fun k_ => (P0_ k_ ∨ w.heap.size ≤ k_))) (q8524_ HO_0.out) hg hat)).2.1))); have n5_ := Aside0.mk (ho); clear HO_0; clear HB; clear HK; clear HR157; clear HR167; clear HO163; have HO_0 := n0_; have HB := n1_; have HK := n2_; have HR157 := n3_; have HR167 := n4_; have HO170 := n5_; clear n0_ n1_ n2_ n3_ n4_ n5_; clear ho hb hg hat))
               go_ret
               exact ⟨_, by first | rfl | (simp [errW_none, errW_some] <;> rfl) | (simp only [← hji5]; first | rfl | (simp [errW_none, errW_some] <;> rfl)) | (simp [*, errW_none, errW_some] <;> rfl), by (with_reducible repeat (first | apply Kd.R_alloc | apply Kd.R_drewN | apply Kd.R_drew)); exact Kd.R_mono HO170.out (fun _ hk => hk.1), (qdb35_ HB.out), (q8d66_ HK.out)⟩
              ·rw [if_neg c34] at H
               exact absurd H (by simp)
             ·rw [if_neg c31] at H
              exact absurd H (by simp)
            ·rw [if_neg c30] at H
             exact absurd H (by simp)
           ·rw [if_neg c29] at H
            exact absurd H (by simp)
          ·rw [if_neg c28] at H
           exact absurd H (by simp)
     ·rw [if_neg c7] at H
      exact absurd H (by simp)
    ·rw [if_neg c6] at H
     exact absurd H (by simp)
   ·rw [if_neg c4] at H
    have c4b0 : decide (0 < x5_1) = false := decide_eq_false c4
    clear c4
    by_cases c42 : a1 < 0
    ·rw [if_pos c42] at H
     have c42b0 : decide (a1 < 0) = true := decide_eq_true c42
     clear c42
     obtain rfl := Option.some.inj H
     go_wp2
     go_ret
     exact ⟨_, by first | rfl | (simp [errW_none, errW_some] <;> rfl) | (simp [*, errW_none, errW_some] <;> rfl), by (with_reducible repeat (first | apply Kd.R_alloc | apply Kd.R_drewN | apply Kd.R_drew)); exact HO_0.out, (qdb35_ HB.out), (q8d66_ HK.out)⟩
    ·rw [if_neg c42] at H
     have c42b0 : decide (a1 < 0) = false := decide_eq_false c42
     clear c42
     by_cases c43 : a1 > 16384
     ·rw [if_pos c43] at H
      have c43b0 : decide (16384 < a1) = true := decide_eq_true c43
      clear c43
      obtain rfl := Option.some.inj H
      go_wp2
      go_ret
      exact ⟨_, by first | rfl | (simp [errW_none, errW_some] <;> rfl) | (simp [*, errW_none, errW_some] <;> rfl), by (with_reducible repeat (first | apply Kd.R_alloc | apply Kd.R_drewN | apply Kd.R_drew)); exact HO_0.out, (qdb35_ HB.out), (q8d66_ HK.out)⟩
     ·rw [if_neg c43] at H
      have c43b0 : decide (16384 < a1) = false := decide_eq_false c43
      clear c43
      by_cases c44 : x5_1 < (l0.length : Int)
      ·rw [if_pos c44] at H
       have c44b0 : decide (x5_1 < (l0.length : Int)) = true := decide_eq_true c44
       clear c44
       by_cases c45 : 0 ≤ x5_1
       ·rw [if_pos c45] at H
        have c45b0 : decide (0 ≤ x5_1) = true := decide_eq_true c45
        clear c45
        by_cases c46 : (rd l0 x5_1) = a1
        ·rw [if_pos c46] at H
         have c46b0 : ((rd l0 x5_1) == a1) = true := beq_iff_eq.mpr c46
         have c46b1 : ((rd l0 x5_1) != a1) = false := bne_eq_false_iff_eq.mpr c46
         clear c46
         obtain rfl := Option.some.inj H
         have p171 : 0 ≤ (x5_1 : Int) := of_decide_eq_true (by first | (with_reducible assumption) | assumption)
         have q171 : x5_1 < (l0.length : Int) := of_decide_eq_true (by first | (with_reducible assumption) | assumption)
         obtain ⟨ad171, e171, hx171_0⟩ := Kd.at_int (Kd.R_reads' HO_0.out).2.2 x5_1 p171 q171
         cases e171
         replace p171 := eq_true p171
         replace q171 := eq_true q171
         go_wp2
         go_ret
         exact ⟨_, by first | rfl | (simp [errW_none, errW_some] <;> rfl) | (simp [*, errW_none, errW_some] <;> rfl), by (with_reducible repeat (first | apply Kd.R_alloc | apply Kd.R_drewN | apply Kd.R_drew)); exact HO_0.out, (qdb35_ HB.out), (q8d66_ HK.out)⟩
        ·rw [if_neg c46] at H
         have c46b0 : ((rd l0 x5_1) == a1) = false := beq_eq_false_iff_ne.mpr c46
         have c46b1 : ((rd l0 x5_1) != a1) = true := bne_iff_ne.mpr c46
         obtain ⟨y172, hy172⟩ : ∃ y_ : List Int, y_ = (([] : List Int)) := ⟨_, rfl⟩
         replace H : (if x5_1 ≤ (l0.length : Int) then ((some (l0.take (x5_1 : Int).toNat : List Int)).bind fun y175 => (if y172.length + y175.length < 17592186044416 then ((some (y172 ++ y175 : List Int)).bind fun y179 => (if y179.length < 17592186044416 then ((some (y179 ++ [a1] : List Int)).bind fun y182 => ((some (l0.drop (x5_1 : Int).toNat : List Int)).bind fun y185 => (if y182.length + y185.length < 17592186044416 then (some (y182 ++ y185)) else (none)))) else (none))) else (none))) else (none)) = some r := by first | (rw [hy172]; with_reducible exact H) | (have H2_ := (Option.bind_some _ _).symm.trans H; rw [hy172]; with_reducible exact H2_) | (have H2_ := (Option.bind_some _ _).symm.trans H; with_reducible exact H2_) | with_reducible exact H | (rw [hy172]; exact H) | exact H
         have Ny172 := Aside0.mk hy172
         clear hy172
         have c47b0 := eq_true (of_decide_eq_true (by first | (with_reducible assumption) | assumption) : 0 ≤ x5_1)
         by_cases c48 : x5_1 ≤ (l0.length : Int)
         ·rw [if_pos c48] at H
          have c48b0 := eq_true c48
          have c48b1 : decide (x5_1 ≤ (l0.length : Int)) = true := decide_eq_true c48
          clear c48
          obtain ⟨y175, hy175⟩ : ∃ y_ : List Int, y_ = (l0.take (x5_1 : Int).toNat) := ⟨_, rfl⟩
          replace H : (if y172.length + y175.length < 17592186044416 then ((some (y172 ++ y175 : List Int)).bind fun y179 => (if y179.length < 17592186044416 then ((some (y179 ++ [a1] : List Int)).bind fun y182 => ((some (l0.drop (x5_1 : Int).toNat : List Int)).bind fun y185 => (if y182.length + y185.length < 17592186044416 then (some (y182 ++ y185)) else (none)))) else (none))) else (none)) = some r := by first | (rw [hy175]; with_reducible exact H) | (have H2_ := (Option.bind_some _ _).symm.trans H; rw [hy175]; with_reducible exact H2_) | (have H2_ := (Option.bind_some _ _).symm.trans H; with_reducible exact H2_) | with_reducible exact H | (rw [hy175]; exact H) | exact H
          have Ny175 := Aside0.mk hy175
          clear hy175
          by_cases c49 : y172.length + y175.length < 17592186044416
          ·rw [if_pos c49] at H
           have LMc49 := Aside0.mk c49
           clear c49
           obtain ⟨y179, hy179⟩ : ∃ y_ : List Int, y_ = (y172 ++ y175) := ⟨_, rfl⟩
           replace H : (if y179.length < 17592186044416 then ((some (y179 ++ [a1] : List Int)).bind fun y182 => ((some (l0.drop (x5_1 : Int).toNat : List Int)).bind fun y185 => (if y182.length + y185.length < 17592186044416 then (some (y182 ++ y185)) else (none)))) else (none)) = some r := by first | (rw [hy179]; with_reducible exact H) | (have H2_ := (Option.bind_some _ _).symm.trans H; rw [hy179]; with_reducible exact H2_) | (have H2_ := (Option.bind_some _ _).symm.trans H; with_reducible exact H2_) | with_reducible exact H | (rw [hy179]; exact H) | exact H
           have Ny179 := Aside0.mk hy179
           clear hy179
           by_cases c50 : y179.length < 17592186044416
           ·rw [if_pos c50] at H
            have LMc50 := Aside0.mk c50
            clear c50
            obtain ⟨y182, hy182⟩ : ∃ y_ : List Int, y_ = (y179 ++ [a1]) := ⟨_, rfl⟩
            replace H : ((some (l0.drop (x5_1 : Int).toNat : List Int)).bind fun y185 => (if y182.length + y185.length < 17592186044416 then (some (y182 ++ y185)) else (none))) = some r := by first | (rw [hy182]; with_reducible exact H) | (have H2_ := (Option.bind_some _ _).symm.trans H; rw [hy182]; with_reducible exact H2_) | (have H2_ := (Option.bind_some _ _).symm.trans H; with_reducible exact H2_) | with_reducible exact H | (rw [hy182]; exact H) | exact H
            have Ny182 := Aside0.mk hy182
            clear hy182
            have c51b0 := eq_true (of_decide_eq_true (by first | (with_reducible assumption) | assumption) : 0 ≤ x5_1)
            have c52b0 := eq_true (of_decide_eq_true (by first | (with_reducible assumption) | assumption) : x5_1 ≤ (l0.length : Int))
            obtain ⟨y185, hy185⟩ : ∃ y_ : List Int, y_ = (l0.drop (x5_1 : Int).toNat) := ⟨_, rfl⟩
            replace H : (if y182.length + y185.length < 17592186044416 then (some (y182 ++ y185)) else (none)) = some r := by first | (rw [hy185]; with_reducible exact H) | (have H2_ := (Option.bind_some _ _).symm.trans H; rw [hy185]; with_reducible exact H2_) | (have H2_ := (Option.bind_some _ _).symm.trans H; with_reducible exact H2_) | with_reducible exact H | (rw [hy185]; exact H) | exact H
            have Ny185 := Aside0.mk hy185
            clear hy185
            by_cases c53 : y182.length + y185.length < 17592186044416
            ·rw [if_pos c53] at H
             have LMc53 := Aside0.mk c53
             clear c53
             obtain ⟨y189, hy189⟩ : ∃ y_ : List Int, y_ = (y182 ++ y185) := ⟨_, rfl⟩
             replace H : (some y189) = some r := by first | (rw [hy189]; with_reducible exact H) | (have H2_ := (Option.bind_some _ _).symm.trans H; rw [hy189]; with_reducible exact H2_) | (have H2_ := (Option.bind_some _ _).symm.trans H; with_reducible exact H2_) | with_reducible exact H | (rw [hy189]; exact H) | exact H
             have Ny189 := Aside0.mk hy189
             clear hy189
             obtain rfl := Option.some.inj H
             have p171 : 0 ≤ (x5_1 : Int) := of_decide_eq_true (by first | (with_reducible assumption) | assumption)
             have q171 : x5_1 < (l0.length : Int) := of_decide_eq_true (by first | (with_reducible assumption) | assumption)
             obtain ⟨ad171, e171, hx171_0⟩ := Kd.at_int (Kd.R_reads' HO_0.out).2.2 x5_1 p171 q171
             cases e171
             replace p171 := eq_true p171
             replace q171 := eq_true q171
             go_wp2_with (first | ((with_reducible refine gate_dst (N := 43) rfl ?_); (try (refine gate_guard (by rfl) ?_; dsimp only)); refine Kd.R_lit (Kd.int .i64) _ 3 ?hg (N := 43) ?hd (xs := ([] : List Int)) (inner := []) (ok := fun _ => True) (okp := fun _ => True) ?hr ?hp (fun _ hk => hk) trivial (Below.refl _ _) (Nat.le_refl _) (by simp) ?_; (case hd => rfl); (case hg => rfl); (case hr => first | (go_simp; done) | (go_simp; rfl)); (case hp => exact (Reps.none _ _)); intro v173 w54 ho55 hb hg_ hnew_; clear hg_ hnew_; (first | rw [← Ny172.out] at ho55 | (simp only [Int.reduceToNat] at ho55; rw [← Ny172.out] at ho55)); have n0_ := Aside0.mk (Kd.R_elder' (q8524_ HO_0.out) (Kd.R_base ho55) hb); have n1_ := Aside0.mk (Kd.R_lower (Kd.R_new' (Kd.R_newM (M := fun k_ => (P0_ k_ ∨ w.heap.size ≤ k_)) ho55 (by first | exact HK.out.1 | exact (show Kept w _ (fun k_ => P0_ k_) from (q8d66_ HK.out)).1) (fun k_ h_ => .inr h_)) (Kd.R_lt (q8524_ HO_0.out))) (below_size (qdb35_ HB.out))); have n2_ := Aside0.mk (Kept.below (S := (fun k_ => P0_ k_)) (q8d66_ HK.out) hb); have n3_ := Aside0.mk (below_step (qdb35_ HB.out) hb); clear HO_0; clear HK; clear HB; have HO_0 := n0_; have HO174 := n1_; have HK := n2_; have HB := n3_; clear n0_ n1_ n2_ n3_; clear hb ho55; have q56 : (x5_1 : Int) ≤ ((l0.length : Int) : Int) := of_decide_eq_true (by first | (with_reducible assumption) | assumption); obtain ⟨i056, hi056, _, hsz56, _⟩ := info_parts info3; have hroom56 : l0.length ≤ co3 := (Kd.R_reads' HO_0.out).2.1; have hC56 : Kd.C (Kd.int .i64) _ (some ad171) l0.length l0 := (Kd.R_reads' HO_0.out).2.2; have hcut56 := cut_to (P := Tryd.prog) 61 3 .i64 Tryd.underlying61 hi056 (some ad171) l0.length co3 x5_1 (of_decide_eq_true (by first | (with_reducible assumption) | assumption)) q56 hroom56; have hr56 := Kd.C_take (m := (x5_1 : Int).toNat) hC56 (by omega); have hy56 : y175.length = (x5_1 : Int).toNat := (by rw [Ny175.out, List.length_take]; omega); rw [← Ny175.out] at hr56; rw [← hy56] at hcut56; have HR178 := Aside0.mk hr56; have HC178 := Aside0.mk (show y175.length ≤ co3 from by omega); clear hr56 hC56 hroom56 hi056 hsz56; have KY56 := Aside0.mk hy56; clear hy56; have KL56 := Aside0.mk (show (x5_1 : Int).toNat ≤ l0.length from by omega); replace q56 := eq_true q56) | ((with_reducible refine gate_builtin (b := .append) (xs := #[.tmp 43, .tmp 46]) rfl ?_); (try (refine gate_guard (by rfl) ?_; dsimp only)); at_builtin; refine Kd.R_append_rows (Kd.int .i64) (w0 := w0) w0.heap.size rfl (.tmp 43) (.tmp 46) 61 3 (.int .i64 0) 8 rfl Tryd.underlying61 info3 rfl (by decide) (by omega) v173 y172 y175 _ _ _ (fun k_ => (P0_ k_ ∨ w.heap.size ≤ k_) ∧ some k_ ≠ (.slice (some ad171) l0.length co3 : Value).ownBlock) (fun _ => False) rfl rfl ?aO ?aR (fun _ _ h => h) (fun _ h => h.elim) ?aF ?aB ?aS ?aL ?_; (case aR => repeat (first | exact (q3f7a_ HR178.out) | (with_reducible refine Kd.C_alloc ?_ _) | (with_reducible refine Kd.C_drewN ?_ _) | (with_reducible refine Kd.C_drew ?_))); (case aB => exact (qdb35_ HB.out)); (case aF => exact (fun k_ hk => ⟨(.inr (Nat.le_trans (by first | exact HK.out.1 | exact (show Kept w _ (fun k_ => P0_ k_) from (q8d66_ HK.out)).1) hk)), Kd.fresh' (Kd.R_lt (q8524_ HO_0.out)) k_ hk⟩)); (case aO => exact (by (with_reducible repeat (first | apply Kd.R_alloc | apply Kd.R_drewN | apply Kd.R_drew)); exact Kd.R_mono HO174.out (fun _ hk => ⟨hk.1.1, hk.2⟩))); (case aS => exact (below_size (qdb35_ HB.out))); (case aL => have := LMc49.out; omega); intro v180 w57 ho hb hg hat; rw [← Ny179.out] at ho; have n0_ := Aside0.mk (Kd.R_after (ok := (fun k_ => (P0_ k_ ∨ w.heap.size ≤ k_))) (q8524_ HO_0.out) hg hat); have n1_ := Aside0.mk (hb); have n2_ := Aside0.mk (Kept.of_grown (S := (fun k_ => P0_ k_)) hg (q8d66_ HK.out) (fun k_ e_ => (HO174.out.1 k_ e_).1.1)); have n3_ := Aside0.mk ((show Kd.C (Kd.int .i64) w57 (some ad171) y175.length y175 from by rw [Ny175.out]; exact Kd.C_take (m := (x5_1 : Int).toNat) ((Kd.R_reads' (Kd.R_after (ok := (fun k_ => (P0_ k_ ∨ w.heap.size ≤ k_))) (q8524_ HO_0.out) hg hat)).2.2) KL56.out)); have n4_ := Aside0.mk (ho); clear HO_0; clear HB; clear HK; clear HR178; clear HO174; have HO_0 := n0_; have HB := n1_; have HK := n2_; have HR178 := n3_; have HO181 := n4_; clear n0_ n1_ n2_ n3_ n4_; clear ho hb hg hat) | ((with_reducible refine gate_builtin (b := .append) (xs := #[.tmp 48, .tmp 50]) rfl ?_); (try (refine gate_guard (by rfl) ?_; dsimp only)); at_builtin; refine Kd.R_append (Kd.int .i64) (w0 := w0) w0.heap.size rfl (.tmp 48) (.tmp 50) 61 3 (.int .i64 0) 8 rfl Tryd.underlying61 info3 rfl (by decide) (by omega) v180 y179 a1 [.int .i64 a1] (fun k_ => (P0_ k_ ∨ w.heap.size ≤ k_) ∧ some k_ ≠ (.slice (some ad171) l0.length co3 : Value).ownBlock) (fun _ => False) rfl rfl ?aP (fun _ hk => hk.elim) ?aF ?aO ?aB ?aS ?aL ?_; (case aP => exact rfl); (case aB => exact (qdb35_ HB.out)); (case aF => exact (fun k_ hk => ⟨(.inr (Nat.le_trans (by first | exact HK.out.1 | exact (show Kept w _ (fun k_ => P0_ k_) from (q8d66_ HK.out)).1) hk)), Kd.fresh' (Kd.R_lt (q8524_ HO_0.out)) k_ hk⟩)); (case aO => exact (q8524_ HO181.out)); (case aS => exact (below_size (qdb35_ HB.out))); (case aL => have := LMc50.out; omega); intro v183 w58 ho hb hg hat; rw [← Ny182.out] at ho; have n0_ := Aside0.mk (Kd.R_after (ok := (fun k_ => (P0_ k_ ∨ w.heap.size ≤ k_))) (q8524_ HO_0.out) hg hat); have n1_ := Aside0.mk (hb); have n2_ := Aside0.mk (Kept.of_grown (S := (fun k_ => P0_ k_)) hg (q8d66_ HK.out) (fun k_ e_ => (HO181.out.1 k_ e_).1)); have n3_ := Aside0.mk ((show Kd.C (Kd.int .i64) w58 (some ad171) y175.length y175 from by rw [Ny175.out]; exact Kd.C_take (m := (x5_1 : Int).toNat) ((Kd.R_reads' (Kd.R_after (ok := (fun k_ => (P0_ k_ ∨ w.heap.size ≤ k_))) (q8524_ HO_0.out) hg hat)).2.2) KL56.out)); have n4_ := Aside0.mk (ho); clear HO_0; clear HB; clear HK; clear HR178; clear HO181; have HO_0 := n0_; have HB := n1_; have HK := n2_; have HR178 := n3_; have HO184 := n4_; clear n0_ n1_ n2_ n3_ n4_; clear ho hb hg hat; have q59 : (x5_1 : Int) ≤ ((l0.length : Int) : Int) := of_decide_eq_true (by first | (with_reducible assumption) | assumption); obtain ⟨i059, hi059, _, hsz59, _⟩ := info_parts info3; have hroom59 : l0.length ≤ co3 := (Kd.R_reads' HO_0.out).2.1; have hC59 : Kd.C (Kd.int .i64) _ (some ad171) l0.length l0 := (Kd.R_reads' HO_0.out).2.2; have q059 : (0 : Int) ≤ (x5_1 : Int) := of_decide_eq_true (by first | (with_reducible assumption) | assumption); have hcut59 := cut_from (P := Tryd.prog) 61 3 .i64 Tryd.underlying61 hi059 1 hsz59 (some ad171) l0.length co3 x5_1 q059 q59; have hr59 := Kd.C_drop (m := (x5_1 : Int).toNat) (c := co3) hC59 (by omega) hroom59; obtain ⟨A59, hA59⟩ : ∃ A1, A1 = (if co3 = (x5_1 : Int).toNat then (some ad171) else ((some ad171) : Option Addr).map (·.add ((x5_1 : Int).toNat * 1))) := ⟨_, rfl⟩; obtain ⟨c59, hc59⟩ : ∃ c1, c1 = co3 - (x5_1 : Int).toNat := ⟨_, rfl⟩; have hy59 : y185.length = l0.length - (x5_1 : Int).toNat := (by rw [Ny185.out, List.length_drop] <;> omega); rw [show (l0).drop (x5_1 : Int).toNat = y185 from Ny185.out.symm] at hr59; replace hr59 : Kd.C (Kd.int .i64) _ A59 y185.length y185 := (by rw [hA59]; exact hr59); rw [← hy59, ← hA59, ← hc59] at hcut59; have HR188 := Aside0.mk hr59; have HC188 := Aside0.mk (show y185.length ≤ c59 from by rw [hy59, hc59]; exact Nat.sub_le_sub_right hroom59 _); clear hr59 hC59 hroom59 hi059 hsz59 hc59; have KY59 := Aside0.mk hy59; have KA59 := Aside0.mk hA59; clear hy59 hA59; have KL59 := Aside0.mk (show (x5_1 : Int).toNat ≤ l0.length from by omega); replace q59 := eq_true q59) | ((with_reducible refine gate_builtin (b := .append) (xs := #[.tmp 52, .tmp 55]) rfl ?_); (try (refine gate_guard (by rfl) ?_; dsimp only)); at_builtin; refine Kd.R_append_rows (Kd.int .i64) (w0 := w0) w0.heap.size rfl (.tmp 52) (.tmp 55) 61 3 (.int .i64 0) 8 rfl Tryd.underlying61 info3 rfl (by decide) (by omega) v183 y182 y185 _ _ _ (fun k_ => (P0_ k_ ∨ w.heap.size ≤ k_) ∧ some k_ ≠ (.slice (some ad171) l0.length co3 : Value).ownBlock) (fun _ => False) rfl rfl ?aO ?aR (fun _ _ h => h) (fun _ h => h.elim) ?aF ?aB ?aS ?aL ?_; (case aR => repeat (first | exact (q3f7a_ HR188.out) | (with_reducible refine Kd.C_alloc ?_ _) | (with_reducible refine Kd.C_drewN ?_ _) | (with_reducible refine Kd.C_drew ?_))); (case aB => exact (qdb35_ HB.out)); (case aF => exact (fun k_ hk => ⟨(.inr (Nat.le_trans (by first | exact HK.out.1 | exact (show Kept w _ (fun k_ => P0_ k_) from (q8d66_ HK.out)).1) hk)), Kd.fresh' (Kd.R_lt (q8524_ HO_0.out)) k_ hk⟩)); (case aO => exact (q8524_ HO184.out)); (case aS => exact (below_size (qdb35_ HB.out))); (case aL => have := LMc53.out; omega); intro v190 w60 ho hb hg hat; rw [← Ny189.out] at ho; have n0_ := Aside0.mk (Kd.R_after (ok := (fun k_ => (P0_ k_ ∨ w.heap.size ≤ k_))) (q8524_ HO_0.out) hg hat); have n1_ := Aside0.mk (hb); have n2_ := Aside0.mk (Kept.of_grown (S := (fun k_ => P0_ k_)) hg (q8d66_ HK.out) (fun k_ e_ => (HO184.out.1 k_ e_).1)); have n3_ := Aside0.mk ((show Kd.C (Kd.int .i64) w60 (some ad171) y175.length y175 from by rw [Ny175.out]; exact Kd.C_take (m := (x5_1 : Int).toNat) ((Kd.R_reads' (Kd.R_after (ok := (fun k_ => (P0_ k_ ∨ w.heap.size ≤ k_))) (q8524_ HO_0.out) hg hat)).2.2) KL56.out)); have n4_ := Aside0.mk ((show Kd.C (Kd.int .i64) w60 A59 y185.length y185 from by rw [Ny185.out, KA59.out]; exact Kd.C_drop (m := (x5_1 : Int).toNat) (c := co3) ((Kd.R_reads' (Kd.R_after (ok := (fun k_ => (P0_ k_ ∨ w.heap.size ≤ k_))) (q8524_ HO_0.out) hg hat)).2.2) KL59.out ((Kd.R_reads' (Kd.R_after (ok := (fun k_ => (P0_ k_ ∨ w.heap.size ≤ k_))) (q8524_ HO_0.out) hg hat)).2.1))); have n5_ := Aside0.mk (ho); clear HO_0; clear HB; clear HK; clear HR178; clear HR188; clear HO184; have HO_0 := n0_; have HB := n1_; have HK := n2_; have HR178 := n3_; have HR188 := n4_; have HO191 := n5_; clear n0_ n1_ n2_ n3_ n4_ n5_; clear ho hb hg hat))
             go_ret
             exact ⟨_, by first | rfl | (simp [errW_none, errW_some] <;> rfl) | (simp [*, errW_none, errW_some] <;> rfl), by (with_reducible repeat (first | apply Kd.R_alloc | apply Kd.R_drewN | apply Kd.R_drew)); exact Kd.R_mono HO191.out (fun _ hk => hk.1), (qdb35_ HB.out), (q8d66_ HK.out)⟩
            ·rw [if_neg c53] at H
             exact absurd H (by simp)
           ·rw [if_neg c50] at H
            exact absurd H (by simp)
          ·rw [if_neg c49] at H
           exact absurd H (by simp)
         ·rw [if_neg c48] at H
          exact absurd H (by simp)
       ·rw [if_neg c45] at H
        exact absurd H (by simp)
      ·rw [if_neg c44] at H
       have c44b0 : decide (x5_1 < (l0.length : Int)) = false := decide_eq_false c44
       clear c44
       obtain ⟨y192, hy192⟩ : ∃ y_ : List Int, y_ = (([] : List Int)) := ⟨_, rfl⟩
       replace H : (if 0 ≤ x5_1 then (if x5_1 ≤ (l0.length : Int) then ((some (l0.take (x5_1 : Int).toNat : List Int)).bind fun y195 => (if y192.length + y195.length < 17592186044416 then ((some (y192 ++ y195 : List Int)).bind fun y199 => (if y199.length < 17592186044416 then ((some (y199 ++ [a1] : List Int)).bind fun y202 => ((some (l0.drop (x5_1 : Int).toNat : List Int)).bind fun y205 => (if y202.length + y205.length < 17592186044416 then (some (y202 ++ y205)) else (none)))) else (none))) else (none))) else (none)) else (none)) = some r := by first | (rw [hy192]; with_reducible exact H) | (have H2_ := (Option.bind_some _ _).symm.trans H; rw [hy192]; with_reducible exact H2_) | (have H2_ := (Option.bind_some _ _).symm.trans H; with_reducible exact H2_) | with_reducible exact H | (rw [hy192]; exact H) | exact H
       have Ny192 := Aside0.mk hy192
       clear hy192
       by_cases c61 : 0 ≤ x5_1
       ·rw [if_pos c61] at H
        have c61b0 := eq_true c61
        have c61b1 : decide (0 ≤ x5_1) = true := decide_eq_true c61
        clear c61
        by_cases c62 : x5_1 ≤ (l0.length : Int)
        ·rw [if_pos c62] at H
         have c62b0 := eq_true c62
         have c62b1 : decide (x5_1 ≤ (l0.length : Int)) = true := decide_eq_true c62
         clear c62
         obtain ⟨y195, hy195⟩ : ∃ y_ : List Int, y_ = (l0.take (x5_1 : Int).toNat) := ⟨_, rfl⟩
         replace H : (if y192.length + y195.length < 17592186044416 then ((some (y192 ++ y195 : List Int)).bind fun y199 => (if y199.length < 17592186044416 then ((some (y199 ++ [a1] : List Int)).bind fun y202 => ((some (l0.drop (x5_1 : Int).toNat : List Int)).bind fun y205 => (if y202.length + y205.length < 17592186044416 then (some (y202 ++ y205)) else (none)))) else (none))) else (none)) = some r := by first | (rw [hy195]; with_reducible exact H) | (have H2_ := (Option.bind_some _ _).symm.trans H; rw [hy195]; with_reducible exact H2_) | (have H2_ := (Option.bind_some _ _).symm.trans H; with_reducible exact H2_) | with_reducible exact H | (rw [hy195]; exact H) | exact H
         have Ny195 := Aside0.mk hy195
         clear hy195
         by_cases c63 : y192.length + y195.length < 17592186044416
         ·rw [if_pos c63] at H
          have LMc63 := Aside0.mk c63
          clear c63
          obtain ⟨y199, hy199⟩ : ∃ y_ : List Int, y_ = (y192 ++ y195) := ⟨_, rfl⟩
          replace H : (if y199.length < 17592186044416 then ((some (y199 ++ [a1] : List Int)).bind fun y202 => ((some (l0.drop (x5_1 : Int).toNat : List Int)).bind fun y205 => (if y202.length + y205.length < 17592186044416 then (some (y202 ++ y205)) else (none)))) else (none)) = some r := by first | (rw [hy199]; with_reducible exact H) | (have H2_ := (Option.bind_some _ _).symm.trans H; rw [hy199]; with_reducible exact H2_) | (have H2_ := (Option.bind_some _ _).symm.trans H; with_reducible exact H2_) | with_reducible exact H | (rw [hy199]; exact H) | exact H
          have Ny199 := Aside0.mk hy199
          clear hy199
          by_cases c64 : y199.length < 17592186044416
          ·rw [if_pos c64] at H
           have LMc64 := Aside0.mk c64
           clear c64
           obtain ⟨y202, hy202⟩ : ∃ y_ : List Int, y_ = (y199 ++ [a1]) := ⟨_, rfl⟩
           replace H : ((some (l0.drop (x5_1 : Int).toNat : List Int)).bind fun y205 => (if y202.length + y205.length < 17592186044416 then (some (y202 ++ y205)) else (none))) = some r := by first | (rw [hy202]; with_reducible exact H) | (have H2_ := (Option.bind_some _ _).symm.trans H; rw [hy202]; with_reducible exact H2_) | (have H2_ := (Option.bind_some _ _).symm.trans H; with_reducible exact H2_) | with_reducible exact H | (rw [hy202]; exact H) | exact H
           have Ny202 := Aside0.mk hy202
           clear hy202
           have c65b0 := eq_true (of_decide_eq_true (by first | (with_reducible assumption) | assumption) : 0 ≤ x5_1)
           have c66b0 := eq_true (of_decide_eq_true (by first | (with_reducible assumption) | assumption) : x5_1 ≤ (l0.length : Int))
           obtain ⟨y205, hy205⟩ : ∃ y_ : List Int, y_ = (l0.drop (x5_1 : Int).toNat) := ⟨_, rfl⟩
           replace H : (if y202.length + y205.length < 17592186044416 then (some (y202 ++ y205)) else (none)) = some r := by first | (rw [hy205]; with_reducible exact H) | (have H2_ := (Option.bind_some _ _).symm.trans H; rw [hy205]; with_reducible exact H2_) | (have H2_ := (Option.bind_some _ _).symm.trans H; with_reducible exact H2_) | with_reducible exact H | (rw [hy205]; exact H) | exact H
           have Ny205 := Aside0.mk hy205
           clear hy205
           by_cases c67 : y202.length + y205.length < 17592186044416
           ·rw [if_pos c67] at H
            have LMc67 := Aside0.mk c67
            clear c67
            obtain ⟨y209, hy209⟩ : ∃ y_ : List Int, y_ = (y202 ++ y205) := ⟨_, rfl⟩
            replace H : (some y209) = some r := by first | (rw [hy209]; with_reducible exact H) | (have H2_ := (Option.bind_some _ _).symm.trans H; rw [hy209]; with_reducible exact H2_) | (have H2_ := (Option.bind_some _ _).symm.trans H; with_reducible exact H2_) | with_reducible exact H | (rw [hy209]; exact H) | exact H
            have Ny209 := Aside0.mk hy209
            clear hy209
            obtain rfl := Option.some.inj H
            go_wp2_with (first | ((with_reducible refine gate_dst (N := 43) rfl ?_); (try (refine gate_guard (by rfl) ?_; dsimp only)); refine Kd.R_lit (Kd.int .i64) _ 3 ?hg (N := 43) ?hd (xs := ([] : List Int)) (inner := []) (ok := fun _ => True) (okp := fun _ => True) ?hr ?hp (fun _ hk => hk) trivial (Below.refl _ _) (Nat.le_refl _) (by simp) ?_; (case hd => rfl); (case hg => rfl); (case hr => first | (go_simp; done) | (go_simp; rfl)); (case hp => exact (Reps.none _ _)); intro v193 w68 ho69 hb hg_ hnew_; clear hg_ hnew_; (first | rw [← Ny192.out] at ho69 | (simp only [Int.reduceToNat] at ho69; rw [← Ny192.out] at ho69)); have n0_ := Aside0.mk (Kd.R_elder' (q8524_ HO_0.out) (Kd.R_base ho69) hb); have n1_ := Aside0.mk (Kd.R_lower (Kd.R_new' (Kd.R_newM (M := fun k_ => (P0_ k_ ∨ w.heap.size ≤ k_)) ho69 (by first | exact HK.out.1 | exact (show Kept w _ (fun k_ => P0_ k_) from (q8d66_ HK.out)).1) (fun k_ h_ => .inr h_)) (Kd.R_lt (q8524_ HO_0.out))) (below_size (qdb35_ HB.out))); have n2_ := Aside0.mk (Kept.below (S := (fun k_ => P0_ k_)) (q8d66_ HK.out) hb); have n3_ := Aside0.mk (below_step (qdb35_ HB.out) hb); clear HO_0; clear HK; clear HB; have HO_0 := n0_; have HO194 := n1_; have HK := n2_; have HB := n3_; clear n0_ n1_ n2_ n3_; clear hb ho69; have q70 : (x5_1 : Int) ≤ ((l0.length : Int) : Int) := of_decide_eq_true (by first | (with_reducible assumption) | assumption); obtain ⟨i070, hi070, _, hsz70, _⟩ := info_parts info3; have hroom70 : l0.length ≤ co3 := (Kd.R_reads' HO_0.out).2.1; have hC70 : Kd.C (Kd.int .i64) _ Ao3 l0.length l0 := (Kd.R_reads' HO_0.out).2.2; have hcut70 := cut_to (P := Tryd.prog) 61 3 .i64 Tryd.underlying61 hi070 Ao3 l0.length co3 x5_1 (of_decide_eq_true (by first | (with_reducible assumption) | assumption)) q70 hroom70; have hr70 := Kd.C_take (m := (x5_1 : Int).toNat) hC70 (by omega); have hy70 : y195.length = (x5_1 : Int).toNat := (by rw [Ny195.out, List.length_take]; omega); rw [← Ny195.out] at hr70; rw [← hy70] at hcut70; have HR198 := Aside0.mk hr70; have HC198 := Aside0.mk (show y195.length ≤ co3 from by omega); clear hr70 hC70 hroom70 hi070 hsz70; have KY70 := Aside0.mk hy70; clear hy70; have KL70 := Aside0.mk (show (x5_1 : Int).toNat ≤ l0.length from by omega); replace q70 := eq_true q70) | ((with_reducible refine gate_builtin (b := .append) (xs := #[.tmp 43, .tmp 46]) rfl ?_); (try (refine gate_guard (by rfl) ?_; dsimp only)); at_builtin; refine Kd.R_append_rows (Kd.int .i64) (w0 := w0) w0.heap.size rfl (.tmp 43) (.tmp 46) 61 3 (.int .i64 0) 8 rfl Tryd.underlying61 info3 rfl (by decide) (by omega) v193 y192 y195 _ _ _ (fun k_ => (P0_ k_ ∨ w.heap.size ≤ k_) ∧ some k_ ≠ (.slice Ao3 l0.length co3 : Value).ownBlock) (fun _ => False) rfl rfl ?aO ?aR (fun _ _ h => h) (fun _ h => h.elim) ?aF ?aB ?aS ?aL ?_; (case aR => repeat (first | exact (q3f7a_ HR198.out) | (with_reducible refine Kd.C_alloc ?_ _) | (with_reducible refine Kd.C_drewN ?_ _) | (with_reducible refine Kd.C_drew ?_))); (case aB => exact (qdb35_ HB.out)); (case aF => exact (fun k_ hk => ⟨(.inr (Nat.le_trans (by first | exact HK.out.1 | exact (show Kept w _ (fun k_ => P0_ k_) from (q8d66_ HK.out)).1) hk)), Kd.fresh' (Kd.R_lt (q8524_ HO_0.out)) k_ hk⟩)); (case aO => exact (by (with_reducible repeat (first | apply Kd.R_alloc | apply Kd.R_drewN | apply Kd.R_drew)); exact Kd.R_mono HO194.out (fun _ hk => ⟨hk.1.1, hk.2⟩))); (case aS => exact (below_size (qdb35_ HB.out))); (case aL => have := LMc63.out; omega); intro v200 w71 ho hb hg hat; rw [← Ny199.out] at ho; have n0_ := Aside0.mk (Kd.R_after (ok := (fun k_ => (P0_ k_ ∨ w.heap.size ≤ k_))) (q8524_ HO_0.out) hg hat); have n1_ := Aside0.mk (hb); have n2_ := Aside0.mk (Kept.of_grown (S := (fun k_ => P0_ k_)) hg (q8d66_ HK.out) (fun k_ e_ => (HO194.out.1 k_ e_).1.1)); have n3_ := Aside0.mk ((show Kd.C (Kd.int .i64) w71 Ao3 y195.length y195 from by rw [Ny195.out]; exact Kd.C_take (m := (x5_1 : Int).toNat) ((Kd.R_reads' (Kd.R_after (ok := (fun k_ => (P0_ k_ ∨ w.heap.size ≤ k_))) (q8524_ HO_0.out) hg hat)).2.2) KL70.out)); have n4_ := Aside0.mk (ho); clear HO_0; clear HB; clear HK; clear HR198; clear HO194; have HO_0 := n0_; have HB := n1_; have HK := n2_; have HR198 := n3_; have HO201 := n4_; clear n0_ n1_ n2_ n3_ n4_; clear ho hb hg hat) | ((with_reducible refine gate_builtin (b := .append) (xs := #[.tmp 48, .tmp 50]) rfl ?_); (try (refine gate_guard (by rfl) ?_; dsimp only)); at_builtin; refine Kd.R_append (Kd.int .i64) (w0 := w0) w0.heap.size rfl (.tmp 48) (.tmp 50) 61 3 (.int .i64 0) 8 rfl Tryd.underlying61 info3 rfl (by decide) (by omega) v200 y199 a1 [.int .i64 a1] (fun k_ => (P0_ k_ ∨ w.heap.size ≤ k_) ∧ some k_ ≠ (.slice Ao3 l0.length co3 : Value).ownBlock) (fun _ => False) rfl rfl ?aP (fun _ hk => hk.elim) ?aF ?aO ?aB ?aS ?aL ?_; (case aP => exact rfl); (case aB => exact (qdb35_ HB.out)); (case aF => exact (fun k_ hk => ⟨(.inr (Nat.le_trans (by first | exact HK.out.1 | exact (show Kept w _ (fun k_ => P0_ k_) from (q8d66_ HK.out)).1) hk)), Kd.fresh' (Kd.R_lt (q8524_ HO_0.out)) k_ hk⟩)); (case aO => exact (q8524_ HO201.out)); (case aS => exact (below_size (qdb35_ HB.out))); (case aL => have := LMc64.out; omega); intro v203 w72 ho hb hg hat; rw [← Ny202.out] at ho; have n0_ := Aside0.mk (Kd.R_after (ok := (fun k_ => (P0_ k_ ∨ w.heap.size ≤ k_))) (q8524_ HO_0.out) hg hat); have n1_ := Aside0.mk (hb); have n2_ := Aside0.mk (Kept.of_grown (S := (fun k_ => P0_ k_)) hg (q8d66_ HK.out) (fun k_ e_ => (HO201.out.1 k_ e_).1)); have n3_ := Aside0.mk ((show Kd.C (Kd.int .i64) w72 Ao3 y195.length y195 from by rw [Ny195.out]; exact Kd.C_take (m := (x5_1 : Int).toNat) ((Kd.R_reads' (Kd.R_after (ok := (fun k_ => (P0_ k_ ∨ w.heap.size ≤ k_))) (q8524_ HO_0.out) hg hat)).2.2) KL70.out)); have n4_ := Aside0.mk (ho); clear HO_0; clear HB; clear HK; clear HR198; clear HO201; have HO_0 := n0_; have HB := n1_; have HK := n2_; have HR198 := n3_; have HO204 := n4_; clear n0_ n1_ n2_ n3_ n4_; clear ho hb hg hat; have q73 : (x5_1 : Int) ≤ ((l0.length : Int) : Int) := of_decide_eq_true (by first | (with_reducible assumption) | assumption); obtain ⟨i073, hi073, _, hsz73, _⟩ := info_parts info3; have hroom73 : l0.length ≤ co3 := (Kd.R_reads' HO_0.out).2.1; have hC73 : Kd.C (Kd.int .i64) _ Ao3 l0.length l0 := (Kd.R_reads' HO_0.out).2.2; have q073 : (0 : Int) ≤ (x5_1 : Int) := of_decide_eq_true (by first | (with_reducible assumption) | assumption); have hcut73 := cut_from (P := Tryd.prog) 61 3 .i64 Tryd.underlying61 hi073 1 hsz73 Ao3 l0.length co3 x5_1 q073 q73; have hr73 := Kd.C_drop (m := (x5_1 : Int).toNat) (c := co3) hC73 (by omega) hroom73; obtain ⟨A73, hA73⟩ : ∃ A1, A1 = (if co3 = (x5_1 : Int).toNat then Ao3 else (Ao3 : Option Addr).map (·.add ((x5_1 : Int).toNat * 1))) := ⟨_, rfl⟩; obtain ⟨c73, hc73⟩ : ∃ c1, c1 = co3 - (x5_1 : Int).toNat := ⟨_, rfl⟩; have hy73 : y205.length = l0.length - (x5_1 : Int).toNat := (by rw [Ny205.out, List.length_drop] <;> omega); rw [show (l0).drop (x5_1 : Int).toNat = y205 from Ny205.out.symm] at hr73; replace hr73 : Kd.C (Kd.int .i64) _ A73 y205.length y205 := (by rw [hA73]; exact hr73); rw [← hy73, ← hA73, ← hc73] at hcut73; have HR208 := Aside0.mk hr73; have HC208 := Aside0.mk (show y205.length ≤ c73 from by rw [hy73, hc73]; exact Nat.sub_le_sub_right hroom73 _); clear hr73 hC73 hroom73 hi073 hsz73 hc73; have KY73 := Aside0.mk hy73; have KA73 := Aside0.mk hA73; clear hy73 hA73; have KL73 := Aside0.mk (show (x5_1 : Int).toNat ≤ l0.length from by omega); replace q73 := eq_true q73) | ((with_reducible refine gate_builtin (b := .append) (xs := #[.tmp 52, .tmp 55]) rfl ?_); (try (refine gate_guard (by rfl) ?_; dsimp only)); at_builtin; refine Kd.R_append_rows (Kd.int .i64) (w0 := w0) w0.heap.size rfl (.tmp 52) (.tmp 55) 61 3 (.int .i64 0) 8 rfl Tryd.underlying61 info3 rfl (by decide) (by omega) v203 y202 y205 _ _ _ (fun k_ => (P0_ k_ ∨ w.heap.size ≤ k_) ∧ some k_ ≠ (.slice Ao3 l0.length co3 : Value).ownBlock) (fun _ => False) rfl rfl ?aO ?aR (fun _ _ h => h) (fun _ h => h.elim) ?aF ?aB ?aS ?aL ?_; (case aR => repeat (first | exact (q3f7a_ HR208.out) | (with_reducible refine Kd.C_alloc ?_ _) | (with_reducible refine Kd.C_drewN ?_ _) | (with_reducible refine Kd.C_drew ?_))); (case aB => exact (qdb35_ HB.out)); (case aF => exact (fun k_ hk => ⟨(.inr (Nat.le_trans (by first | exact HK.out.1 | exact (show Kept w _ (fun k_ => P0_ k_) from (q8d66_ HK.out)).1) hk)), Kd.fresh' (Kd.R_lt (q8524_ HO_0.out)) k_ hk⟩)); (case aO => exact (q8524_ HO204.out)); (case aS => exact (below_size (qdb35_ HB.out))); (case aL => have := LMc67.out; omega); intro v210 w74 ho hb hg hat; rw [← Ny209.out] at ho; have n0_ := Aside0.mk (Kd.R_after (ok := (fun k_ => (P0_ k_ ∨ w.heap.size ≤ k_))) (q8524_ HO_0.out) hg hat); have n1_ := Aside0.mk (hb); have n2_ := Aside0.mk (Kept.of_grown (S := (fun k_ => P0_ k_)) hg (q8d66_ HK.out) (fun k_ e_ => (HO204.out.1 k_ e_).1)); have n3_ := Aside0.mk ((show Kd.C (Kd.int .i64) w74 Ao3 y195.length y195 from by rw [Ny195.out]; exact Kd.C_take (m := (x5_1 : Int).toNat) ((Kd.R_reads' (Kd.R_after (ok := (fun k_ => (P0_ k_ ∨ w.heap.size ≤ k_))) (q8524_ HO_0.out) hg hat)).2.2) KL70.out)); have n4_ := Aside0.mk ((show Kd.C (Kd.int .i64) w74 A73 y205.length y205 from by rw [Ny205.out, KA73.out]; exact Kd.C_drop (m := (x5_1 : Int).toNat) (c := co3) ((Kd.R_reads' (Kd.R_after (ok := (fun k_ => (P0_ k_ ∨ w.heap.size ≤ k_))) (q8524_ HO_0.out) hg hat)).2.2) KL73.out ((Kd.R_reads' (Kd.R_after (ok := (fun k_ => (P0_ k_ ∨ w.heap.size ≤ k_))) (q8524_ HO_0.out) hg hat)).2.1))); have n5_ := Aside0.mk (ho); clear HO_0; clear HB; clear HK; clear HR198; clear HR208; clear HO204; have HO_0 := n0_; have HB := n1_; have HK := n2_; have HR198 := n3_; have HR208 := n4_; have HO211 := n5_; clear n0_ n1_ n2_ n3_ n4_ n5_; clear ho hb hg hat))
            go_ret
            exact ⟨_, by first | rfl | (simp [errW_none, errW_some] <;> rfl) | (simp [*, errW_none, errW_some] <;> rfl), by (with_reducible repeat (first | apply Kd.R_alloc | apply Kd.R_drewN | apply Kd.R_drew)); exact Kd.R_mono HO211.out (fun _ hk => hk.1), (qdb35_ HB.out), (q8d66_ HK.out)⟩
           ·rw [if_neg c67] at H
            exact absurd H (by simp)
          ·rw [if_neg c64] at H
           exact absurd H (by simp)
         ·rw [if_neg c63] at H
          exact absurd H (by simp)
        ·rw [if_neg c62] at H
         exact absurd H (by simp)
       ·rw [if_neg c61] at H
        exact absurd H (by simp)

end Go.Proofs.YtnlakdpfkgjdaaaDoor.G

/- What functions of the translation come to, and their calls' proofs; by a program of mine over the kit's print, with contracts given by hand beside. Conditions: where a plain function tells none, nothing is said. -/
namespace Go.Proofs.YtnlakdpfkgjdaaaDoor.G
open Go.RowKit Go.Proofs.YtnlakdpfkgjdaaaDoorW.PrintWords Go.Proofs.YtnlakdpfkgjdaaaDoorW.PrintLast Go.Proofs.YtnlakdpfkgjdaaaDoorW.PrintMore
attribute [local go_sem] max2_int min2_int max_two min_two max_three min_three max_four min_four   -- for this text's walks alone
set_option linter.unusedVariables false
set_option linter.unusedSimpArgs false

/-! ### caravanref1_marks: function 38 -/
mutual
def caravanref1_marks.l0 : Nat → List (S31) → List (S31) → List Int → Int → Option (List Int)
 | 0, _, _, _, _ => none
 | k + 1, x0, x1, x5, x6 => if x6 < (wrap64 ((x0.length : Int) + (x1.length : Int))) then (if x6 < (x0.length : Int) then (if 0 ≤ x6 then (caravanref1_marks.j1 k x0 x1 x5 x6 ((rd_T31 x0 x6).f0) ((rd_T31 x0 x6).f1)) else (none)) else (if 0 ≤ (wrap64 (x6 - (x0.length : Int))) then (if (wrap64 (x6 - (x0.length : Int))) < (x1.length : Int) then (caravanref1_marks.j1 k x0 x1 x5 x6 ((rd_T31 x1 (wrap64 (x6 - (x0.length : Int)))).f0) ((rd_T31 x1 (wrap64 (x6 - (x0.length : Int)))).f1)) else (none)) else (none))) else (some x5)
def caravanref1_marks.j1 : Nat → List (S31) → List (S31) → List Int → Int → Int → Int → Option (List Int)
 | 0, _, _, _, _, _, _ => none
 | k + 1, x0, x1, x5, x6, x216000, x216001 => if x216000 ≤ x216001 then ((caravanref1_Mark.f k x5 x216000).bind fun t218 => (if x216001 < 16384 then ((caravanref1_Mark.f k t218 (wrap64 (x216001 + 1))).bind fun t221 => (caravanref1_marks.l0 k x0 x1 t221 (wrap64 (x6 + 1)))) else (caravanref1_marks.l0 k x0 x1 t218 (wrap64 (x6 + 1))))) else (caravanref1_marks.l0 k x0 x1 x5 (wrap64 (x6 + 1)))
end
def caravanref1_marks.f (k : Nat) (l0 : List (S31)) (l1 : List (S31)) : Option (List Int) := caravanref1_marks.l0 k l0 l1 (([0, 16384] : List Int)) 0
theorem caravanref1_marks.mono_l : ∀ k, (∀ y0 y1 y2 y3, LeO (caravanref1_marks.l0 k y0 y1 y2 y3) (caravanref1_marks.l0 (k + 1) y0 y1 y2 y3)) ∧ (∀ y0 y1 y2 y3 y4 y5, LeO (caravanref1_marks.j1 k y0 y1 y2 y3 y4 y5) (caravanref1_marks.j1 (k + 1) y0 y1 y2 y3 y4 y5))
 | 0 => ⟨fun _ _ _ _ r h => by simp [caravanref1_marks.l0] at h, fun _ _ _ _ _ _ r h => by simp [caravanref1_marks.j1] at h⟩
 | k + 1 => by
  obtain ⟨ih0, ih1⟩ := caravanref1_marks.mono_l k
  refine ⟨?_, ?_⟩
  ·intro y0 y1 y2 y3
   unfold caravanref1_marks.l0
   repeat' first
   | (with_reducible exact ih0 _ _ _ _)
   | (with_reducible exact ih1 _ _ _ _ _ _)
   | (with_reducible exact caravanref1_Mark.mono _ _ _)
   | (with_reducible exact LeO.refl _)
   | (with_reducible exact LeO.none _)
   | (with_reducible refine LeO.ite ?_ ?_)
   | (with_reducible refine LeO.bind ?_ (fun _ => ?_))
   | exact ih0 _ _ _ _
   | exact ih1 _ _ _ _ _ _
   | exact caravanref1_Mark.mono _ _ _
   | exact LeO.none _
   | refine LeO.ite ?_ ?_
   | refine LeO.bind ?_ (fun _ => ?_)
  ·intro y0 y1 y2 y3 y4 y5
   unfold caravanref1_marks.j1
   repeat' first
   | (with_reducible exact ih0 _ _ _ _)
   | (with_reducible exact ih1 _ _ _ _ _ _)
   | (with_reducible exact caravanref1_Mark.mono _ _ _)
   | (with_reducible exact LeO.refl _)
   | (with_reducible exact LeO.none _)
   | (with_reducible refine LeO.ite ?_ ?_)
   | (with_reducible refine LeO.bind ?_ (fun _ => ?_))
   | exact ih0 _ _ _ _
   | exact ih1 _ _ _ _ _ _
   | exact caravanref1_Mark.mono _ _ _
   | exact LeO.none _
   | refine LeO.ite ?_ ?_
   | refine LeO.bind ?_ (fun _ => ?_)
theorem caravanref1_marks.mono : ∀ a0 a1 k, LeO (caravanref1_marks.f k a0 a1) (caravanref1_marks.f (k + 1) a0 a1) := by
 intro a0 a1 k
 obtain ⟨ih0, ih1⟩ := caravanref1_marks.mono_l k
 unfold caravanref1_marks.f
 repeat' first
  | (with_reducible exact ih0 _ _ _ _)
  | (with_reducible exact ih1 _ _ _ _ _ _)
  | (with_reducible exact caravanref1_Mark.mono _ _ _)
  | (with_reducible exact LeO.refl _)
  | (with_reducible exact LeO.none _)
  | (with_reducible refine LeO.ite ?_ ?_)
  | (with_reducible refine LeO.bind ?_ (fun _ => ?_))
  | exact ih0 _ _ _ _
  | exact ih1 _ _ _ _ _ _
  | exact caravanref1_Mark.mono _ _ _
  | exact LeO.none _
  | refine LeO.ite ?_ ?_
  | refine LeO.bind ?_ (fun _ => ?_)
set_option maxHeartbeats 8000000 in
set_option maxRecDepth 100000 in
theorem caravanref1_marks.calls (k : Nat) (A0 : Option Addr) (c0 : Nat) (l0 : List (S31)) (A1 : Option Addr) (c1 : Nat) (l1 : List (S31)) (r : List Int) (w : World) (hr0 : Kd.C k31 w A0 l0.length l0) (hc0 : l0.length ≤ c0) (hr1 : Kd.C k31 w A1 l1.length l1) (hc1 : l1.length ≤ c1) (h : caravanref1_marks.f k l0 l1 = some r) :
 Calls Tryd.prog 38 #[.slice A0 l0.length c0, .slice A1 l1.length c1] w fun e w' => ∃ v0_ : Value, e = .returned (v0_) ∧ Kd.R (Kd.int .i64) 3 w' w.heap.size (fun _ => True) v0_ r ∧ Below w.heap.size w w' := by
 have hu31 := Tryd.underlying31
 have HR0 := Aside0.mk hr0
 have HC0 := Aside0.mk hc0
 clear hr0 hc0
 have HR1 := Aside0.mk hr1
 have HC1 := Aside0.mk hc1
 clear hr1 hc1
 have HB := Aside0.mk (Below.refl w.heap.size w)
 have H : (caravanref1_marks.l0 k l0 l1 (([0, 16384] : List Int)) 0) = some r := h
 clear h
 obtain ⟨y212, hy212⟩ : ∃ y_ : List Int, y_ = (([0, 16384] : List Int)) := ⟨_, rfl⟩
 replace H : (caravanref1_marks.l0 k l0 l1 y212 0) = some r := by first | (rw [hy212]; with_reducible exact H) | (have H2_ := (Option.bind_some _ _).symm.trans H; rw [hy212]; with_reducible exact H2_) | (have H2_ := (Option.bind_some _ _).symm.trans H; with_reducible exact H2_) | with_reducible exact H | (rw [hy212]; exact H) | exact H
 have Ny212 := Aside0.mk hy212
 clear hy212
 have H' := Aside0.mk H
 clear H
 go_enter Tryd.func38, Tryd.ntmps38
 go_wp2_with (first | ((with_reducible refine gate_dst (N := 8) rfl ?_); refine Kd.R_lit (Kd.int .i64) _ 3 ?hg (N := 8) ?hd (xs := ([0, 16384] : List Int)) (inner := [.int .i64 0, .int .i64 16384]) (ok := fun _ => True) (okp := fun _ => True) ?hr ?hp (fun _ hk => hk) trivial (Below.refl _ _) (Nat.le_refl _) (by simp) ?_; (case hd => rfl); (case hg => rfl); (case hr => first | (go_simp; done) | (go_simp; rfl)); (case hp => exact (Reps.one (show Kd.M (Kd.int .i64) _ _ _ 0 [.int .i64 0] from rfl) (Reps.one (show Kd.M (Kd.int .i64) _ _ _ 16384 [.int .i64 16384] from rfl) (Reps.none _ _)))); intro v213 w3 ho4 hb hg_ hnew_; clear hg_ hnew_; (first | rw [← Ny212.out] at ho4 | (simp only [Int.reduceToNat] at ho4; rw [← Ny212.out] at ho4)); have n0_ := Aside0.mk (Kd.R_lower ho4 (below_size (qdb35_ HB.out))); have n1_ := Aside0.mk (below_step (qdb35_ HB.out) hb); clear HB; have HO214 := n0_; have HB := n1_; clear n0_ n1_; clear hb ho4))
 go_loopg [5, 6] k (fun kq v5 v6 w' => ∃ (x5_1 : List Int) (x6_1 : Int), v6 = .int .i64 x6_1 ∧ Aside0 (caravanref1_marks.l0 kq l0 l1 x5_1 x6_1 = some r) ∧ Aside0 (kq ≤ k) ∧ Aside0 (Kd.R (Kd.int .i64) 3 w' w.heap.size (fun _ => True) v5 x5_1) ∧ Aside0 (Below w.heap.size w w'))
 case atStart => exact ⟨(y212), (0), (by first | rfl | (simp; done) | (simp [*]; done)), H', ⟨Nat.le_refl _⟩, ⟨by (with_reducible repeat (first | apply Kd.R_alloc | apply Kd.R_drewN | apply Kd.R_drew)); exact HO214.out⟩, ⟨(qdb35_ HB.out)⟩⟩
 case round =>
  clear H'
  try clear c1
  try clear p2
  try clear c3
  obtain ⟨x5_1, x6_1, rfl, HA, HK1, HO_5, HB⟩ := hrel
  cases gk with
  | zero => exact absurd HA.out (by simp [caravanref1_marks.l0])
  | succ k1 =>
   have H := HA.out
   clear HA
   simp only [caravanref1_marks.l0] at H
   by_cases c5 : x6_1 < (wrap64 ((l0.length : Int) + (l1.length : Int)))
   ·rw [if_pos c5] at H
    have c5b0 : decide (x6_1 < (wrap64 ((l0.length : Int) + (l1.length : Int)))) = true := decide_eq_true c5
    clear c5
    have HC6 := Aside0.mk H
    clear H
    go_upto_if 22 with (first | ((with_reducible refine gate_dst (N := 7) rfl ?_); refine box_event ?hg (N := 7) ?hd (cs := #[.int .i64 0, .int .i64 0]) (t := 31) ?hr ?_; (case hd => rfl); (case hg => rfl); (case hr => first | (go_simp; done) | (go_simp; rfl)); intro gb215 hg w7 hbox hb; have n0_ := Aside0.mk (Kd.R_below (q8524_ HO_5.out) hb); have n1_ := Aside0.mk (below_step (qdb35_ HB.out) hb); have n2_ := Aside0.mk (hbox); have n3_ := Aside0.mk ((by rw [hg]; exact (below_size (qdb35_ HB.out)) : w.heap.size ≤ gb215)); have n4_ := Aside0.mk ((by rw [hg]; exact (below_size (qdb35_ HB.out)) : w.heap.size ≤ gb215)); clear HO_5; clear HB; have HO_5 := n0_; have HB := n1_; have BK215 := n2_; have GW215 := n3_; have GE215 := n4_; clear n0_ n1_ n2_ n3_ n4_; clear hb hbox hg; have hcz8_0 : w7.cell? ⟨gb215, 0, none⟩ = some (.int .i64 0) := (blk_cell BK215.out 0).trans rfl; have hcz8_1 : w7.cell? ⟨gb215, 1, none⟩ = some (.int .i64 0) := (blk_cell BK215.out 1).trans rfl; have hfz8_0 := blk_frozen BK215.out 0; have hfz8_1 := blk_frozen BK215.out 1))
    (try simp only [Act.put, List.setIfInBounds_toArray, List.set_cons_zero, List.set_cons_succ])
    go_cut [] (fun wc => ∃ (kq : Nat) (x216000_5 : Int) (x216001_5 : Int), Aside0 (caravanref1_marks.j1 kq l0 l1 x5_1 x6_1 x216000_5 x216001_5 = some r) ∧ Aside0 (kq ≤ k1) ∧ Aside0 (Kd.R (Kd.int .i64) 3 wc w.heap.size (fun _ => True) u5 x5_1) ∧ Aside0 (wc.heap[gb215]? = some (.cells #[.int .i64 x216000_5, .int .i64 x216001_5] 31 (0, 0))) ∧ Aside0 (Below w.heap.size w wc))
    case first =>
     have H := HC6.out
     clear HC6
     by_cases c9 : x6_1 < (l0.length : Int)
     ·rw [if_pos c9] at H
      have c9b0 : decide (x6_1 < (l0.length : Int)) = true := decide_eq_true c9
      clear c9
      (first | rw [c9b0] | (simp only [i64_w, i32_w]; rw [c9b0]) | skip)
      by_cases c10 : 0 ≤ x6_1
      ·rw [if_pos c10] at H
       have c10b0 : decide (0 ≤ x6_1) = true := decide_eq_true c10
       clear c10
       have H' := Aside0.mk H
       clear H
       have p216 : 0 ≤ (x6_1 : Int) := of_decide_eq_true (by first | (with_reducible assumption) | assumption)
       have q216 : x6_1 < (l0.length : Int) := of_decide_eq_true (by first | (with_reducible assumption) | assumption)
       obtain ⟨ad216, e216, hx216_0, hx216_1⟩ := at_T31 HR0.out x6_1 p216 q216
       cases e216
       have hn216_0 : ad216.block ≠ gb215 := Nat.ne_of_lt (Nat.lt_of_lt_of_le (by have := World.block_lt_of_cell? _ _ hx216_0; first | rwa [add_block] at this | exact this) GW215.out)
       have hn216_1 : ad216.block ≠ gb215 := Nat.ne_of_lt (Nat.lt_of_lt_of_le (by have := World.block_lt_of_cell? _ _ hx216_0; first | rwa [add_block] at this | exact this) GW215.out)
       replace hx216_0 := (HB.out.cell (World.block_lt_of_cell? w _ hx216_0)).trans hx216_0
       replace hx216_1 := (HB.out.cell (World.block_lt_of_cell? w _ hx216_1)).trans hx216_1
       replace hx216_0 := (cell_far (p := ⟨gb215, 0, none⟩) (by first | (rw [add_block]; exact hn216_0) | (show (Addr.add _ _).block ≠ _; rw [add_block]; exact hn216_0) | exact hn216_0) (.int .i64 0)).trans hx216_0
       replace hx216_1 := (cell_far (p := ⟨gb215, 0, none⟩) (by first | (rw [add_block]; exact hn216_0) | (show (Addr.add _ _).block ≠ _; rw [add_block]; exact hn216_0) | exact hn216_0) (.int .i64 0)).trans hx216_1
       replace hx216_0 := (cell_far (p := ⟨gb215, 1, none⟩) (by first | (rw [add_block]; exact hn216_1) | (show (Addr.add _ _).block ≠ _; rw [add_block]; exact hn216_1) | exact hn216_1) (.int .i64 0)).trans hx216_0
       replace hx216_1 := (cell_far (p := ⟨gb215, 1, none⟩) (by first | (rw [add_block]; exact hn216_1) | (show (Addr.add _ _).block ≠ _; rw [add_block]; exact hn216_1) | exact hn216_1) (.int .i64 0)).trans hx216_1
       clear hn216_0
       clear hn216_1
       replace p216 := eq_true p216
       replace q216 := eq_true q216
       have hcz11_0 : w7.cell? ⟨gb215, 0, none⟩ = some (.int .i64 0) := (blk_cell BK215.out 0).trans rfl
       have hcz11_1 : w7.cell? ⟨gb215, 1, none⟩ = some (.int .i64 0) := (blk_cell BK215.out 1).trans rfl
       have hfz11_0 := blk_frozen BK215.out 0
       have hfz11_1 := blk_frozen BK215.out 1
       go_wp2
       go_meet
       case rel => exact ⟨_, ((rd_T31 l0 x6_1).f0), ((rd_T31 l0 x6_1).f1), H', ⟨by have := HK1.out; first | omega | exact Nat.le_refl _⟩, ⟨by (with_reducible repeat (first | apply Kd.R_alloc | apply Kd.R_drewN | apply Kd.R_drew)); exact Kd.R_mono (Kd.R_far (p := ⟨gb215, 1, none⟩) (Kd.R_far (p := ⟨gb215, 0, none⟩) (Kd.R_far (p := ⟨gb215, 1, none⟩) (Kd.R_far (p := ⟨gb215, 0, none⟩) (Kd.R_types HO_5.out BK215.out (by decide)) (fun _ hk => hk.2) (.int .i64 0)) (fun _ hk => hk.2) (.int .i64 0)) (fun _ hk => hk.2) (.int .i64 ((rd_T31 l0 x6_1).f0))) (fun _ hk => hk.2) (.int .i64 ((rd_T31 l0 x6_1).f1))) (fun _ hk => trivial)⟩, ⟨by (with_reducible repeat (first | refine blk_drewN ?_ _ | refine blk_drew ?_ | refine blk_alloc ?_ _)); refine blk_put (cs := #[.int .i64 ((rd_T31 l0 x6_1).f0), .int .i64 0]) ?_ 1 _ rfl; (with_reducible repeat (first | refine blk_drewN ?_ _ | refine blk_drew ?_ | refine blk_alloc ?_ _)); refine blk_put (cs := #[.int .i64 0, .int .i64 0]) ?_ 0 _ rfl; (with_reducible repeat (first | refine blk_drewN ?_ _ | refine blk_drew ?_ | refine blk_alloc ?_ _)); refine blk_put (cs := #[.int .i64 0, .int .i64 0]) ?_ 1 _ rfl; (with_reducible repeat (first | refine blk_drewN ?_ _ | refine blk_drew ?_ | refine blk_alloc ?_ _)); refine blk_put (cs := #[.int .i64 0, .int .i64 0]) ?_ 0 _ rfl; (with_reducible repeat (first | refine blk_drewN ?_ _ | refine blk_drew ?_ | refine blk_alloc ?_ _)); exact BK215.out⟩, ⟨(qed14_ HB.out GE215.out)⟩⟩
      ·rw [if_neg c10] at H
       exact absurd H (by simp)
     ·rw [if_neg c9] at H
      have c9b0 : decide (x6_1 < (l0.length : Int)) = false := decide_eq_false c9
      clear c9
      (first | rw [c9b0] | (simp only [i64_w, i32_w]; rw [c9b0]) | skip)
      obtain ⟨ji12, hji12⟩ : ∃ j_ : Int, (wrap64 (x6_1 - (l0.length : Int))) = j_ := ⟨_, rfl⟩
      replace H : (if 0 ≤ (ji12) then (if (ji12) < (l1.length : Int) then (caravanref1_marks.j1 k1 l0 l1 x5_1 x6_1 ((rd_T31 l1 (ji12)).f0) ((rd_T31 l1 (ji12)).f1)) else (none)) else (none)) = some r := by first | (rw [hji12] at H; exact H) | (simp only [hji12] at H ⊢; exact H)
      have hji12w : (IntKind.i64.wrap (x6_1 - (l0.length : Int))) = ji12 := (i64_w _).trans hji12
      by_cases c13 : 0 ≤ (ji12)
      ·rw [if_pos c13] at H
       have c13b0 : decide (0 ≤ (ji12)) = true := decide_eq_true c13
       clear c13
       by_cases c14 : (ji12) < (l1.length : Int)
       ·rw [if_pos c14] at H
        have c14b0 : decide ((ji12) < (l1.length : Int)) = true := decide_eq_true c14
        clear c14
        have H' := Aside0.mk H
        clear H
        have p217 : 0 ≤ ((ji12) : Int) := of_decide_eq_true (by first | (with_reducible assumption) | assumption)
        have q217 : (ji12) < (l1.length : Int) := of_decide_eq_true (by first | (with_reducible assumption) | assumption)
        obtain ⟨ad217, e217, hx217_0, hx217_1⟩ := at_T31 HR1.out (ji12) p217 q217
        cases e217
        have hn217_0 : ad217.block ≠ gb215 := Nat.ne_of_lt (Nat.lt_of_lt_of_le (by have := World.block_lt_of_cell? _ _ hx217_0; first | rwa [add_block] at this | exact this) GW215.out)
        have hn217_1 : ad217.block ≠ gb215 := Nat.ne_of_lt (Nat.lt_of_lt_of_le (by have := World.block_lt_of_cell? _ _ hx217_0; first | rwa [add_block] at this | exact this) GW215.out)
        replace hx217_0 := (HB.out.cell (World.block_lt_of_cell? w _ hx217_0)).trans hx217_0
        replace hx217_1 := (HB.out.cell (World.block_lt_of_cell? w _ hx217_1)).trans hx217_1
        replace hx217_0 := (cell_far (p := ⟨gb215, 0, none⟩) (by first | (rw [add_block]; exact hn217_0) | (show (Addr.add _ _).block ≠ _; rw [add_block]; exact hn217_0) | exact hn217_0) (.int .i64 0)).trans hx217_0
        replace hx217_1 := (cell_far (p := ⟨gb215, 0, none⟩) (by first | (rw [add_block]; exact hn217_0) | (show (Addr.add _ _).block ≠ _; rw [add_block]; exact hn217_0) | exact hn217_0) (.int .i64 0)).trans hx217_1
        replace hx217_0 := (cell_far (p := ⟨gb215, 1, none⟩) (by first | (rw [add_block]; exact hn217_1) | (show (Addr.add _ _).block ≠ _; rw [add_block]; exact hn217_1) | exact hn217_1) (.int .i64 0)).trans hx217_0
        replace hx217_1 := (cell_far (p := ⟨gb215, 1, none⟩) (by first | (rw [add_block]; exact hn217_1) | (show (Addr.add _ _).block ≠ _; rw [add_block]; exact hn217_1) | exact hn217_1) (.int .i64 0)).trans hx217_1
        clear hn217_0
        clear hn217_1
        replace p217 := eq_true p217
        replace q217 := eq_true q217
        have hcz15_0 : w7.cell? ⟨gb215, 0, none⟩ = some (.int .i64 0) := (blk_cell BK215.out 0).trans rfl
        have hcz15_1 : w7.cell? ⟨gb215, 1, none⟩ = some (.int .i64 0) := (blk_cell BK215.out 1).trans rfl
        have hfz15_0 := blk_frozen BK215.out 0
        have hfz15_1 := blk_frozen BK215.out 1
        go_wp2
        go_meet
        case rel => exact ⟨_, ((rd_T31 l1 (ji12)).f0), ((rd_T31 l1 (ji12)).f1), H', ⟨by have := HK1.out; first | omega | exact Nat.le_refl _⟩, ⟨by (with_reducible repeat (first | apply Kd.R_alloc | apply Kd.R_drewN | apply Kd.R_drew)); exact Kd.R_mono (Kd.R_far (p := ⟨gb215, 1, none⟩) (Kd.R_far (p := ⟨gb215, 0, none⟩) (Kd.R_far (p := ⟨gb215, 1, none⟩) (Kd.R_far (p := ⟨gb215, 0, none⟩) (Kd.R_types HO_5.out BK215.out (by decide)) (fun _ hk => hk.2) (.int .i64 0)) (fun _ hk => hk.2) (.int .i64 0)) (fun _ hk => hk.2) (.int .i64 ((rd_T31 l1 (ji12)).f0))) (fun _ hk => hk.2) (.int .i64 ((rd_T31 l1 (ji12)).f1))) (fun _ hk => trivial)⟩, ⟨by (with_reducible repeat (first | refine blk_drewN ?_ _ | refine blk_drew ?_ | refine blk_alloc ?_ _)); refine blk_put (cs := #[.int .i64 ((rd_T31 l1 (ji12)).f0), .int .i64 0]) ?_ 1 _ rfl; (with_reducible repeat (first | refine blk_drewN ?_ _ | refine blk_drew ?_ | refine blk_alloc ?_ _)); refine blk_put (cs := #[.int .i64 0, .int .i64 0]) ?_ 0 _ rfl; (with_reducible repeat (first | refine blk_drewN ?_ _ | refine blk_drew ?_ | refine blk_alloc ?_ _)); refine blk_put (cs := #[.int .i64 0, .int .i64 0]) ?_ 1 _ rfl; (with_reducible repeat (first | refine blk_drewN ?_ _ | refine blk_drew ?_ | refine blk_alloc ?_ _)); refine blk_put (cs := #[.int .i64 0, .int .i64 0]) ?_ 0 _ rfl; (with_reducible repeat (first | refine blk_drewN ?_ _ | refine blk_drew ?_ | refine blk_alloc ?_ _)); exact BK215.out⟩, ⟨(qed14_ HB.out GE215.out)⟩⟩
       ·rw [if_neg c14] at H
        exact absurd H (by simp)
      ·rw [if_neg c13] at H
       exact absurd H (by simp)
    case rest =>
     clear HC6
     try clear c1
     try clear p2
     try clear q2
     try clear hx2
     try clear c3
     try clear c5
     try clear c5b0
     try clear p6
     try clear c9
     try clear c9b0
     try clear c10
     try clear c10b0
     try clear c13
     try clear c13b0
     try clear c14
     try clear c14b0
     try clear hcz11_0
     try clear hcz11_1
     try clear hcz15_0
     try clear hcz15_1
     try clear hcz8_0
     try clear hcz8_1
     try clear hfz11_0
     try clear hfz11_1
     try clear hfz15_0
     try clear hfz15_1
     try clear hfz8_0
     try clear hfz8_1
     try clear hx216_0
     try clear hx216_1
     try clear hx217_0
     try clear hx217_1
     try clear p2
     try clear p216
     try clear p217
     try clear q216
     try clear q217
     obtain ⟨kq, x216000_5, x216001_5, HA, HJ5, HO_5, BK215, HB⟩ := hcut
     cases kq with
     | zero => exact absurd HA.out (by simp [caravanref1_marks.j1])
     | succ kj5 =>
      have H := HA.out
      clear HA
      simp only [caravanref1_marks.j1] at H
      by_cases c16 : x216000_5 ≤ x216001_5
      ·rw [if_pos c16] at H
       have c16b0 : decide (x216000_5 ≤ x216001_5) = true := decide_eq_true c16
       clear c16
       replace H := Option.bind_eq_some_iff.mp H
       obtain ⟨t218, A170, H⟩ := H
       replace H : (if x216001_5 < 16384 then ((caravanref1_Mark.f kj5 t218 (wrap64 (x216001_5 + 1))).bind fun t221 => (caravanref1_marks.l0 kj5 l0 l1 t221 (wrap64 (x6_1 + 1)))) else (caravanref1_marks.l0 kj5 l0 l1 t218 (wrap64 (x6_1 + 1)))) = some r := H
       have A17 := Aside0.mk A170
       clear A170
       by_cases c18 : x216001_5 < 16384
       ·rw [if_pos c18] at H
        have c18b0 : decide (x216001_5 < 16384) = true := decide_eq_true c18
        clear c18
        replace H := Option.bind_eq_some_iff.mp H
        obtain ⟨t221, A190, H⟩ := H
        replace H : (caravanref1_marks.l0 kj5 l0 l1 t221 (wrap64 (x6_1 + 1))) = some r := H
        have A19 := Aside0.mk A190
        clear A190
        have H' := Aside0.mk H
        clear H
        have hcz20_0 : wc.cell? ⟨gb215, 0, none⟩ = some (.int .i64 x216000_5) := (blk_cell BK215.out 0).trans rfl
        have hcz20_1 : wc.cell? ⟨gb215, 1, none⟩ = some (.int .i64 x216001_5) := (blk_cell BK215.out 1).trans rfl
        have hfz20_0 := blk_frozen BK215.out 0
        have hfz20_1 := blk_frozen BK215.out 1
        obtain ⟨Ao21, co21, eo21⟩ := Kd.R_slice HO_5.out
        subst eo21
        go_wp2_with (first | ((with_reducible refine gate_callee (f := 55) rfl ?_); refine goesL_ (some 42) rfl rfl Tryd.func55 (by kernel_rfl) rfl #[.slice Ao21 x5_1.length co21, .int .i64 x216000_5] rfl qM_ ?_; (with_reducible refine (caravanref1_Mark.calls kj5 (fun k_ => some k_ = (.slice Ao21 x5_1.length co21 : Value).ownBlock) (.slice Ao21 x5_1.length co21) x5_1 x216000_5 t218 w _ ?side1 ?side2 A17.out).mono ?_); (case side1 => repeat (first | (with_reducible first | exact HB.out | apply below_alloc | apply pw_below_drewN | apply below_drew1 | refine below_set ?_ GE215.out) | exact HB.out)); (case side2 => exact Kd.R_tight rfl HO_5.out); rintro e w22 ⟨v219, rfl, ho0, hb, hkp⟩; refine ⟨_, rfl, ?_⟩; have n0_ := Aside0.mk (blk_kept (by (with_reducible repeat (first | refine blk_drewN ?_ _ | refine blk_drew ?_ | refine blk_alloc ?_ _)); exact BK215.out) hkp (fun hs_ => (fun e_ => (Kd.R_ne HO_5.out BK215.out (by decide)) e_) hs_)); have n1_ := Aside0.mk (Kd.R_mono (ok' := fun k_ => True) ho0 (fun k_ hk_ => trivial)); have n2_ := Aside0.mk (hb); clear BK215; clear HB; clear HO_5; have BK215 := n0_; have HO220 := n1_; have HB := n2_; clear n0_ n1_ n2_; (try clear hb); (try clear hkp); (try clear ho0); have hcz23_0 : w22.cell? ⟨gb215, 0, none⟩ = some (.int .i64 x216000_5) := (blk_cell BK215.out 0).trans rfl; have hcz23_1 : w22.cell? ⟨gb215, 1, none⟩ = some (.int .i64 x216001_5) := (blk_cell BK215.out 1).trans rfl; have hfz23_0 := blk_frozen BK215.out 0; have hfz23_1 := blk_frozen BK215.out 1; obtain ⟨Ao24, co24, eo24⟩ := Kd.R_slice HO220.out; subst eo24) | ((with_reducible refine gate_callee (f := 55) rfl ?_); refine goesL_ (some 57) rfl rfl Tryd.func55 (by kernel_rfl) rfl #[.slice Ao24 t218.length co24, .int .i64 (wrap64 (x216001_5 + 1))] rfl qM_ ?_; (with_reducible refine (caravanref1_Mark.calls kj5 (fun k_ => some k_ = (.slice Ao24 t218.length co24 : Value).ownBlock) (.slice Ao24 t218.length co24) t218 (wrap64 (x216001_5 + 1)) t221 w _ ?side1 ?side2 A19.out).mono ?_); (case side1 => repeat (first | (with_reducible first | exact HB.out | apply below_alloc | apply pw_below_drewN | apply below_drew1 | refine below_set ?_ GE215.out) | exact HB.out)); (case side2 => exact Kd.R_tight rfl HO220.out); rintro e w25 ⟨v222, rfl, ho0, hb, hkp⟩; refine ⟨_, rfl, ?_⟩; have n0_ := Aside0.mk (blk_kept (by (with_reducible repeat (first | refine blk_drewN ?_ _ | refine blk_drew ?_ | refine blk_alloc ?_ _)); exact BK215.out) hkp (fun hs_ => (fun e_ => (Kd.R_ne HO220.out BK215.out (by decide)) e_) hs_)); have n1_ := Aside0.mk (Kd.R_mono (ok' := fun k_ => True) ho0 (fun k_ hk_ => trivial)); have n2_ := Aside0.mk (hb); clear BK215; clear HB; clear HO220; have BK215 := n0_; have HO223 := n1_; have HB := n2_; clear n0_ n1_ n2_; (try clear hb); (try clear hkp); (try clear ho0)))
        go_roundg kj5
        case measure => have := HK1.out; have := HJ5.out; omega
        case rel => exact ⟨(t221), (wrap64 (x6_1 + 1)), (by first | rfl | (simp; done) | (simp [*]; done)), H', ⟨by have := HK1.out; have := HJ5.out; omega⟩, ⟨by (with_reducible repeat (first | apply Kd.R_alloc | apply Kd.R_drewN | apply Kd.R_drew)); exact HO223.out⟩, ⟨(qed14_ HB.out GE215.out)⟩⟩
       ·rw [if_neg c18] at H
        have c18b0 : decide (x216001_5 < 16384) = false := decide_eq_false c18
        clear c18
        have H' := Aside0.mk H
        clear H
        have hcz26_0 : wc.cell? ⟨gb215, 0, none⟩ = some (.int .i64 x216000_5) := (blk_cell BK215.out 0).trans rfl
        have hcz26_1 : wc.cell? ⟨gb215, 1, none⟩ = some (.int .i64 x216001_5) := (blk_cell BK215.out 1).trans rfl
        have hfz26_0 := blk_frozen BK215.out 0
        have hfz26_1 := blk_frozen BK215.out 1
        obtain ⟨Ao27, co27, eo27⟩ := Kd.R_slice HO_5.out
        subst eo27
        go_wp2_with (first | ((with_reducible refine gate_callee (f := 55) rfl ?_); refine goesL_ (some 42) rfl rfl Tryd.func55 (by kernel_rfl) rfl #[.slice Ao27 x5_1.length co27, .int .i64 x216000_5] rfl qM_ ?_; (with_reducible refine (caravanref1_Mark.calls kj5 (fun k_ => some k_ = (.slice Ao27 x5_1.length co27 : Value).ownBlock) (.slice Ao27 x5_1.length co27) x5_1 x216000_5 t218 w _ ?side1 ?side2 A17.out).mono ?_); (case side1 => repeat (first | (with_reducible first | exact HB.out | apply below_alloc | apply pw_below_drewN | apply below_drew1 | refine below_set ?_ GE215.out) | exact HB.out)); (case side2 => exact Kd.R_tight rfl HO_5.out); rintro e w28 ⟨v219, rfl, ho0, hb, hkp⟩; refine ⟨_, rfl, ?_⟩; have n0_ := Aside0.mk (blk_kept (by (with_reducible repeat (first | refine blk_drewN ?_ _ | refine blk_drew ?_ | refine blk_alloc ?_ _)); exact BK215.out) hkp (fun hs_ => (fun e_ => (Kd.R_ne HO_5.out BK215.out (by decide)) e_) hs_)); have n1_ := Aside0.mk (Kd.R_mono (ok' := fun k_ => True) ho0 (fun k_ hk_ => trivial)); have n2_ := Aside0.mk (hb); clear BK215; clear HB; clear HO_5; have BK215 := n0_; have HO220 := n1_; have HB := n2_; clear n0_ n1_ n2_; (try clear hb); (try clear hkp); (try clear ho0); have hcz29_0 : w28.cell? ⟨gb215, 0, none⟩ = some (.int .i64 x216000_5) := (blk_cell BK215.out 0).trans rfl; have hcz29_1 : w28.cell? ⟨gb215, 1, none⟩ = some (.int .i64 x216001_5) := (blk_cell BK215.out 1).trans rfl; have hfz29_0 := blk_frozen BK215.out 0; have hfz29_1 := blk_frozen BK215.out 1))
        go_roundg kj5
        case measure => have := HK1.out; have := HJ5.out; omega
        case rel => exact ⟨(t218), (wrap64 (x6_1 + 1)), (by first | rfl | (simp; done) | (simp [*]; done)), H', ⟨by have := HK1.out; have := HJ5.out; omega⟩, ⟨by (with_reducible repeat (first | apply Kd.R_alloc | apply Kd.R_drewN | apply Kd.R_drew)); exact HO220.out⟩, ⟨(qed14_ HB.out GE215.out)⟩⟩
      ·rw [if_neg c16] at H
       have c16b0 : decide (x216000_5 ≤ x216001_5) = false := decide_eq_false c16
       clear c16
       have H' := Aside0.mk H
       clear H
       have hcz30_0 : wc.cell? ⟨gb215, 0, none⟩ = some (.int .i64 x216000_5) := (blk_cell BK215.out 0).trans rfl
       have hcz30_1 : wc.cell? ⟨gb215, 1, none⟩ = some (.int .i64 x216001_5) := (blk_cell BK215.out 1).trans rfl
       have hfz30_0 := blk_frozen BK215.out 0
       have hfz30_1 := blk_frozen BK215.out 1
       go_wp2
       go_roundg kj5
       case measure => have := HK1.out; have := HJ5.out; omega
       case rel => exact ⟨(x5_1), (wrap64 (x6_1 + 1)), (by first | rfl | (simp; done) | (simp [*]; done)), H', ⟨by have := HK1.out; have := HJ5.out; omega⟩, ⟨by (with_reducible repeat (first | apply Kd.R_alloc | apply Kd.R_drewN | apply Kd.R_drew)); exact HO_5.out⟩, ⟨(qed14_ HB.out GE215.out)⟩⟩
   ·rw [if_neg c5] at H
    have c5b0 : decide (x6_1 < (wrap64 ((l0.length : Int) + (l1.length : Int)))) = false := decide_eq_false c5
    clear c5
    obtain rfl := Option.some.inj H
    go_wp2
    go_ret
    exact ⟨_, by first | rfl | (simp [errW_none, errW_some] <;> rfl) | (simp [*, errW_none, errW_some] <;> rfl), by (with_reducible repeat (first | apply Kd.R_alloc | apply Kd.R_drewN | apply Kd.R_drew)); exact HO_5.out, (qdb35_ HB.out)⟩

end Go.Proofs.YtnlakdpfkgjdaaaDoor.G
