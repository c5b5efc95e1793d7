/- Texts of mine, packed in the order in which they build: PXa, PEv, PXc, PureSpansLaws. Conditions: where a theorem asks for any, it names them. -/
import Derived.Test.YtnlakdpfkgjdaaaDoorRows
import Derived.Test.YtnlakdpfkgjdaaaDoorProg
import Derived.WalkKit
import Derived.WalkSpells
import Derived.WalkLawsBesides
import Derived.WalkSmall
import Derived.OwnWalkIn
import Derived.TacticsInMore
import Derived.Laws.AppendOwnNone
import Derived.Maps.AppendAt
import Derived.Deep.RegionLaw
import Derived.Lib.BufferRead
import Derived.KernelRfl
import Derived.Lib.Hide
import Derived.Lib.SplitLaws
import Derived.Shelf.Strings.OnBuilder
import Derived.Shelf.Small.Bits
import Derived.Shelf.Small.Wraps
import Derived.Shelf.LaysM
import Derived.Shelf.Strconv.Itoa3
import Derived.Shelf.LaysC
import Derived.Shelf.Strconv.AtoiAll
import Derived.Shelf.Strings.Search3
import Derived.Shelf.Strings.Cut
import Derived.Shelf.SlSortCmp.WholeK
import Derived.Shelf.Lays
import Derived.Shelf.SlLaysF0
import Derived.Test.YtnlakdpfkgjdaaaDoorWWords
import Derived.Test.YtnlakdpfkgjdaaaDoorWLast
import Derived.Test.YtnlakdpfkgjdaaaDoorWQPut
import Derived.Test.YtnlakdpfkgjdaaaDoorWApart
import Derived.Test.YtnlakdpfkgjdaaaDoorWArr
import Derived.Test.YtnlakdpfkgjdaaaDoorWZeros
import Derived.Test.YtnlakdpfkgjdaaaDoorWFoot
import Derived.Test.YtnlakdpfkgjdaaaDoorWKept
import Derived.Test.YtnlakdpfkgjdaaaDoorWShare
import Derived.Test.YtnlakdpfkgjdaaaDoorWN
import Derived.Test.YtnlakdpfkgjdaaaDoorWNEv
import Derived.Test.YtnlakdpfkgjdaaaDoorWMore
import Derived.IntWalk
import Derived.Lib.AppendIntMem
import Derived.Lib.ItoaLen
import Derived.Stop.LaidErr
import Derived.Lib.LaidTab
import Derived.LaidLaws
import Derived.Deep.DeepLaidRun
import Derived.ChangeSame
import Derived.ChangeVars
import Derived.JoinedOf
import Derived.RowKit
import Derived.RowKit3
import Derived.RowKitTokens
import Derived.HandedShaped
import Derived.Handed
import Derived.Shelf.Vars
import Derived.SevenTiedAt
import Derived.Below
import Derived.Deep.Draws
import Derived.Deep.AppendLies
import Derived.OwnWalk
import Derived.Laws.BytesArg
import Derived.Laws.MakeOwn
import Derived.Laws.OwnMore
import Derived.Deep.OwnRows
import Derived.Tactics
import Derived.Lib.ConvBytes
import Derived.Laws.Slices
import Derived.Deep.LoopGhost
import Derived.Deep.QuietTactic
import Derived.BigQuiet
import Derived.WideLaws
import Derived.Deep.DeepCutAuto
import Derived.Deep.CutBlock
import Derived.Deep.RegionHeld3
import Derived.Laws.Rows
import Derived.Lib.AppendStr
import Derived.ArgAppend
import Derived.Laws.IdiomCopy
import Derived.OrdersHeld
import Derived.Laws.BitsLemmas
import Derived.Test.YtnlakdpfkgjdaaaDoorWTab
import Derived.Test.YtnlakdpfkgjdaaaDoorWFour
import Derived.Test.YtnlakdpfkgjdaaaDoorWFootNe
import Derived.Test.YtnlakdpfkgjdaaaDoorWAt
import Derived.Test.YtnlakdpfkgjdaaaDoorWEqStruct
import Derived.Test.YtnlakdpfkgjdaaaDoorWRepsOne
import Derived.Test.YtnlakdpfkgjdaaaDoorWInv
import Derived.Test.YtnlakdpfkgjdaaaDoorWInvWords
import Derived.Test.YtnlakdpfkgjdaaaDoorWGuard
import Derived.RangeFuncNested
import Derived.RangeFuncBound
import Derived.RangeFuncCalls
import Derived.RangeFuncLeaves
import Derived.RangeFuncBox
import Derived.Shelf.Abstract
import Derived.Shelf.RegionOpen
import Derived.LoopNIn
import Derived.LoopIn
import Derived.Deep.RegionWith
import Derived.BigRegionIn
import Derived.RegionIn
import Derived.Sort.BigQuietIn
import Derived.Lib.IndexBytes
import Derived.Lib.IndexLaws
import Derived.Laws.Tables
import Derived.StillTail
import Derived.StillTactics
import Derived.OrdersIn
import Derived.TacticsIn
import Derived.Stop.RegionWithIn
import Derived.Sort.CutIn
import Derived.ProofKit
import Derived.OpenShut
import Derived.ShutString
import Derived.ChangeOld
import Derived.SizedLaws
import Derived.Test.YtnlakdpfkgjdaaaDoorWSized
import Derived.Test.YtnlakdpfkgjdaaaDoorKL1
import Derived.Test.YtnlakdpfkgjdaaaDoorKL2
import Derived.Test.YtnlakdpfkgjdaaaDoorKL3
/- What the reference's functions on spans come to: MaySpans, Has, marks, Mix, Norm, SameSpans. Conditions: bounds on lengths. -/
namespace Go.Proofs.YtnlakdpfkgjdaaaDoor.G
open Go.RowKit Go.Pk Go.Cav Go.Proofs.YtnlakdpfkgjdaaaDoorW.PrintWords Go.Proofs.YtnlakdpfkgjdaaaDoorW.PrintLast Go.Proofs.YtnlakdpfkgjdaaaDoorW.PrintMore
theorem wj (j : Nat) (h : j ≤ 1000000000000000) : wrap64 ((j : Int) + 1) = ((j + 1 : Nat) : Int) := by rw [w64 _ (by omega) (by omega)]; omega
theorem rmay_loop (l : List S31) (hl : l.length ≤ 1000000000000) : ∀ n j, j + n = l.length → ∀ a : Int, (j = 0 → a = -1) → (∀ i, j = i + 1 → ∀ hi : i < l.length, a = l[i].f1 + 1) → -1 ≤ a → a ≤ 16384 →
    Ev (fun k => caravanref1_MaySpans.l0 k l (j : Int)) (decide (mayF a (l.drop j)))
  | 0, j, hj, a, _, _, _, _ => by
    refine Ev.next (f := fun _ => some true) (fun k => by rw [caravanref1_MaySpans.l0, if_neg (by omega)]) (Ev.const ?_)
    rw [List.drop_of_length_le (by omega)]
    exact congrArg some (decide_eq_true (p := mayF a []) trivial).symm
  | n + 1, j, hj, a, h0, h1, h2, h3 => by
    have hlt : j < l.length := by omega
    have ew := wj j (by omega)
    have hm : mayF a (l[j] :: l.drop (j + 1)) ↔ a < l[j].f0 ∧ l[j].f0 ≤ l[j].f1 ∧ l[j].f1 ≤ 16383 ∧ mayF (l[j].f1 + 1) (l.drop (j + 1)) := Iff.rfl
    rw [List.drop_eq_getElem_cons hlt]
    have no : ¬ mayF a (l[j] :: l.drop (j + 1)) → (∀ k, caravanref1_MaySpans.l0 (k + 1) l (j : Int) = some false) → Ev (fun k => caravanref1_MaySpans.l0 k l (j : Int)) (decide (mayF a (l[j] :: l.drop (j + 1)))) := fun hn hk =>
      Ev.next (f := fun _ => some false) hk (Ev.const (by rw [decide_eq_false hn]))
    have st : ∀ k, caravanref1_MaySpans.l0 (k + 1) l (j : Int) = (if l[j].f0 < 0 then (some false) else (if l[j].f1 < l[j].f0 then (some false) else (if l[j].f1 ≥ 16384 then (some false) else (if (j : Int) > 0 then (if 0 ≤ (wrap64 ((j : Int) - 1)) then (if (wrap64 ((j : Int) - 1)) < (l.length : Int) then (if l[j].f0 ≤ (wrap64 (((rd_T31 l (wrap64 ((j : Int) - 1))).f1) + 1)) then (some false) else (caravanref1_MaySpans.l0 k l ((j + 1 : Nat) : Int))) else (none)) else (none)) else (caravanref1_MaySpans.l0 k l ((j + 1 : Nat) : Int)))))) := fun k => by
      rw [caravanref1_MaySpans.l0, if_pos (by omega), if_pos (by omega), rd_at l j hlt, ew]
    by_cases c2 : l[j].f0 < 0
    · exact no (fun h => by have := (hm.1 h).1; omega) (fun k => by rw [st, if_pos c2])
    by_cases c3 : l[j].f1 < l[j].f0
    · exact no (fun h => by have := (hm.1 h).2.1; omega) (fun k => by rw [st, if_neg c2, if_pos c3])
    by_cases c4 : l[j].f1 ≥ 16384
    · exact no (fun h => by have := (hm.1 h).2.2.1; omega) (fun k => by rw [st, if_neg c2, if_neg c3, if_pos c4])
    have st2 : ∀ k, caravanref1_MaySpans.l0 (k + 1) l (j : Int) = if l[j].f0 ≤ a then some false else caravanref1_MaySpans.l0 k l ((j + 1 : Nat) : Int) := fun k => by
      rw [st, if_neg c2, if_neg c3, if_neg c4]
      cases j with
      | zero => rw [if_neg (by omega), if_neg (by rw [h0 rfl]; omega)]
      | succ i =>
        have hi : i < l.length := by omega
        have e1 : wrap64 (((i + 1 : Nat) : Int) - 1) = (i : Int) := by rw [w64 _ (by omega) (by omega)]; omega
        have e2 := h1 i rfl hi
        rw [if_pos (by omega), e1, if_pos (by omega), if_pos (by omega), rd_at l i hi, w64 _ (by omega) (by omega), ← e2]
    by_cases c1 : l[j].f0 ≤ a
    · exact no (fun h => by have := (hm.1 h).1; omega) (fun k => by rw [st2, if_pos c1])
    · refine Ev.next (fun k => by rw [st2, if_neg c1]) (Ev.same (rmay_loop l hl n (j + 1) (by omega) (l[j].f1 + 1) (by omega) (fun i e hi => by cases e; rfl) (by omega) (by omega)) ?_)
      exact decide_eq_decide.2 ⟨fun h => hm.2 ⟨by omega, by omega, by omega, h⟩, fun h => (hm.1 h).2.2.2⟩
theorem rmay_ev (l : List S31) (hl : l.length ≤ 1000000000000) : Ev (fun k => caravanref1_MaySpans.f k l) (mayB l) :=
  rmay_loop l hl l.length 0 (by omega) (-1) (fun _ => rfl) (fun i e => by cases e) (by omega) (by omega)
theorem rhas_loop (l : List S31) (hl : l.length ≤ 1000000000000) (x : Int) : ∀ n j, j + n = l.length → Ev (fun k => caravanref1_Has.l0 k l x (j : Int)) (sayS (l.drop j) x)
  | 0, j, hj => by
    refine Ev.next (f := fun _ => some false) (fun k => by rw [caravanref1_Has.l0, if_neg (by omega)]) (Ev.const ?_)
    rw [List.drop_of_length_le (by omega), sayS_nil]
  | n + 1, j, hj => by
    have hlt : j < l.length := by omega
    have ew := wj j (by omega)
    have ih := rhas_loop l hl x n (j + 1) (by omega)
    rw [List.drop_eq_getElem_cons hlt]
    have e : sayS (l[j] :: l.drop (j + 1)) x = ((decide (0 ≤ x) && decide (x ≤ 16383) && (decide (l[j].f0 ≤ x) && decide (x ≤ l[j].f1))) || sayS (l.drop (j + 1)) x) := by
      unfold sayS; rw [hasS_cons]; cases decide (0 ≤ x) <;> cases decide (x ≤ 16383) <;> simp
    by_cases c : x ≥ 0 ∧ x < 16384 ∧ l[j].f0 ≤ x ∧ x ≤ l[j].f1
    · refine Ev.next (f := fun _ => some true) (fun k => by rw [caravanref1_Has.l0, if_pos (by omega), if_pos c.1, if_pos c.2.1, if_pos (by omega), rd_at l j hlt, if_pos c.2.2.1, if_pos c.2.2.2]) (Ev.const ?_)
      rw [e, decide_eq_true (show 0 ≤ x by omega), decide_eq_true (show x ≤ 16383 by omega), decide_eq_true c.2.2.1, decide_eq_true c.2.2.2]; rfl
    · refine Ev.next (fun k => ?_) (Ev.same ih ?_)
      · rw [caravanref1_Has.l0, if_pos (by omega), if_pos (show (0 : Int) ≤ j by omega), rd_at l j hlt, ew]
        by_cases c1 : x ≥ 0
        · rw [if_pos c1]
          by_cases c2 : x < 16384
          · rw [if_pos c2]
            by_cases c3 : l[j].f0 ≤ x
            · rw [if_pos c3, if_neg (fun c4 => c ⟨c1, c2, c3, c4⟩)]
            · rw [if_neg c3]
          · rw [if_neg c2]
        · rw [if_neg c1]
      · rw [e]
        have : (decide (0 ≤ x) && decide (x ≤ 16383) && (decide (l[j].f0 ≤ x) && decide (x ≤ l[j].f1))) = false := by
          rw [Bool.eq_false_iff]
          simp only [ne_eq, Bool.and_eq_true, decide_eq_true_eq]
          omega
        rw [this, Bool.false_or]
theorem rhas_ev (l : List S31) (hl : l.length ≤ 1000000000000) (x : Int) : Ev (fun k => caravanref1_Has.f k l x) (sayS l x) := rhas_loop l hl x l.length 0 (by omega)
theorem mark_ev (l : List Int) (x : Int) (hu : upM l) (hl : l.length ≤ 1000000000) : Ev (fun k => caravanref1_Mark.f k l x) (markL l x) := ⟨l.length + 1, fun k hk => mark_f l x hu hl k hk⟩
theorem marks_loop (a b : List S31) (ha : a.length ≤ 100000000) (hb : b.length ≤ 100000000) (hw : ∀ s ∈ a ++ b, -9223372036854775808 ≤ s.f1) : ∀ n i, i + n = a.length + b.length → ∀ l, upM l → l.length ≤ 2 + 2 * i → Ev (fun k => caravanref1_marks.l0 k a b l (i : Int)) (((a ++ b).drop i).foldl mark1 l)
  | 0, i, hi, l, hu, hl => by
    have e : wrap64 ((a.length : Int) + (b.length : Int)) = (a.length : Int) + (b.length : Int) := w64 _ (by omega) (by omega)
    refine Ev.next (f := fun _ => some l) (fun k => by rw [caravanref1_marks.l0, e, if_neg (by omega)]) (Ev.const ?_)
    rw [List.drop_of_length_le (by rw [List.length_append]; omega)]; rfl
  | n + 1, i, hi, l, hu, hl => by
    have e : wrap64 ((a.length : Int) + (b.length : Int)) = (a.length : Int) + (b.length : Int) := w64 _ (by omega) (by omega)
    have hlt : i < (a ++ b).length := by rw [List.length_append]; omega
    have ew := wj i (by omega)
    rw [List.drop_eq_getElem_cons hlt, List.foldl_cons]
    have hwx := hw (a ++ b)[i] (List.getElem_mem hlt)
    generalize hx : (a ++ b)[i] = x at hwx
    have ih := marks_loop a b ha hb hw n (i + 1) (by omega) (mark1 l x) (mark1_up x hu) (by have := mark1_len l x; omega)
    have hj : Ev (fun k => caravanref1_marks.j1 k a b l (i : Int) x.f0 x.f1) (((a ++ b).drop (i + 1)).foldl mark1 (mark1 l x)) := by
      unfold mark1 at ih ⊢
      by_cases c : x.f0 ≤ x.f1
      · rw [if_pos c] at ih ⊢
        have k1 := mark_ev l x.f0 hu (by omega)
        by_cases d : x.f1 < 16384
        · rw [if_pos d] at ih ⊢
          have hl1 := markL_len l x.f0
          have k2 := mark_ev (markL l x.f0) (x.f1 + 1) (markL_up _ hu) (by omega)
          refine Ev.next (f := fun k => (caravanref1_Mark.f k l x.f0).bind fun t => (caravanref1_Mark.f k t (x.f1 + 1)).bind fun u => caravanref1_marks.l0 k a b u ((i + 1 : Nat) : Int)) (fun k => ?_) (Ev.seq k1 (Ev.seq k2 ih))
          rw [caravanref1_marks.j1, if_pos c, ew]
          congr 1
          funext t
          rw [if_pos d]
          rw [w64 _ (by omega) (by omega)]
        · rw [if_neg d] at ih ⊢
          refine Ev.next (f := fun k => (caravanref1_Mark.f k l x.f0).bind fun t => caravanref1_marks.l0 k a b t ((i + 1 : Nat) : Int)) (fun k => ?_) (Ev.seq k1 ih)
          rw [caravanref1_marks.j1, if_pos c, ew]
          congr 1
          funext t
          rw [if_neg d]
      · rw [if_neg c] at ih ⊢
        exact Ev.next (fun k => by rw [caravanref1_marks.j1, if_neg c, ew]) ih
    refine Ev.next (fun k => ?_) hj
    rw [caravanref1_marks.l0, e, if_pos (by omega)]
    by_cases c : i < a.length
    · have ex : rd_T31 a (i : Int) = x := by rw [rd_at a i c, ← hx, List.getElem_append_left c]
      rw [if_pos (by omega), if_pos (by omega), ex]
    · have e1 : wrap64 ((i : Int) - (a.length : Int)) = ((i - a.length : Nat) : Int) := by rw [w64 _ (by omega) (by omega)]; omega
      have ex : rd_T31 b ((i - a.length : Nat) : Int) = x := by rw [rd_at b (i - a.length) (by omega), ← hx, List.getElem_append_right (by omega)]
      rw [if_neg (by omega), e1, if_pos (by omega), if_pos (by omega), ex]
theorem marks_ev (a b : List S31) (ha : a.length ≤ 100000000) (hb : b.length ≤ 100000000) (hw : ∀ s ∈ a ++ b, -9223372036854775808 ≤ s.f1) : Ev (fun k => caravanref1_marks.f k a b) (marksL (a ++ b)) :=
  Ev.same (marks_loop a b ha hb hw (a.length + b.length) 0 (by omega) [0, 16384] ⟨by decide, trivial⟩ (by simp)) (by rw [List.drop_zero]; rfl)
theorem addM_len (out : List S31) (m m' : Int) : (addM out m m').length ≤ out.length + 1 := by
  unfold addM
  rcases List.eq_nil_or_concat out with rfl | ⟨q, t, rfl⟩
  · simp
  · rw [List.concat_eq_append]; simp; split <;> simp
theorem rd_int (m : List Int) (i : Nat) (h : i < m.length) : rd m (i : Int) = m[i] := by unfold rd; rw [Int.toNat_natCast, List.getD_eq_getElem?_getD, List.getElem?_eq_getElem h]; rfl
theorem mix_loop (how : Int) (a b : List S31) (ha : a.length ≤ 100000000) (hb : b.length ≤ 100000000) (m : List Int) (hm : ∀ y ∈ m, 0 ≤ y ∧ y ≤ 16384) (hml : m.length ≤ 1000000000) :
    ∀ n i, i + n = m.length → ∀ out : List S31, out.length ≤ i → Ev (fun k => caravanref1_Mix.l0 k how a b m out (i : Int)) (mixL (fun n => mixP how (sayS a n) (sayS b n)) (m.drop i) out)
  | 0, i, hi, out, ho => by
    have ew := wj i (by omega)
    refine Ev.next (f := fun _ => some out) (fun k => by rw [caravanref1_Mix.l0, ew, if_neg (by omega)]) (Ev.const ?_)
    rw [List.drop_of_length_le (by omega)]; rfl
  | 1, i, hi, out, ho => by
    have ew := wj i (by omega)
    refine Ev.next (f := fun _ => some out) (fun k => by rw [caravanref1_Mix.l0, ew, if_neg (by omega)]) (Ev.const ?_)
    rw [List.drop_eq_getElem_cons (by omega), List.drop_of_length_le (by omega)]; rfl
  | n + 2, i, hi, out, ho => by
    have ew := wj i (by omega)
    have h1 : i < m.length := by omega
    have h2 : i + 1 < m.length := by omega
    have r1 := rd_int m i h1
    have r2 := rd_int m (i + 1) h2
    have b1 := hm m[i] (List.getElem_mem h1)
    have b2 := hm m[i + 1] (List.getElem_mem h2)
    rw [List.drop_eq_getElem_cons h1, List.drop_eq_getElem_cons h2, mixL, ← List.drop_eq_getElem_cons h2]
    have ih := mix_loop how a b ha hb m hm hml (n + 1) (i + 1) (by omega) (if mixP how (sayS a m[i]) (sayS b m[i]) = true then addM out m[i] m[i + 1] else out) (by have := addM_len out m[i] m[i + 1]; split <;> omega)
    generalize hx : m[i] = x at *
    generalize hy : m[i + 1] = y at *
    have e1 : wrap64 (x - 1) = x - 1 := w64 _ (by omega) (by omega)
    have e2 : wrap64 (y - 1) = y - 1 := w64 _ (by omega) (by omega)
    have j2 : Ev (fun k => caravanref1_Mix.j2 k how a b m out (i : Int) (mixP how (sayS a x) (sayS b x))) (mixL (fun n => mixP how (sayS a n) (sayS b n)) (m.drop (i + 1)) (if mixP how (sayS a x) (sayS b x) = true then addM out x y else out)) := by
      generalize mixP how (sayS a x) (sayS b x) = q at ih ⊢
      refine Ev.next (fun k => ?_) ih
      rw [caravanref1_Mix.j2, ew, r1, r2, e1, e2]
      cases q with
      | false => rw [if_neg (by decide), if_neg (by decide)]
      | true =>
        rw [if_pos rfl, if_pos rfl]
        unfold addM
        rcases List.eq_nil_or_concat out with rfl | ⟨q, t, rfl⟩
        · rw [if_neg (by simp), if_pos (by omega), if_pos (by omega), if_pos (by omega), if_pos (by omega), if_pos (by simp)]; rfl
        · rw [List.concat_eq_append] at ho ⊢
          have hq : (q ++ [t]).length = q.length + 1 := by simp
          have f1 : wrap64 (((q ++ [t]).length : Int) - 1) = (q.length : Int) := by rw [hq, w64 _ (by omega) (by omega)]; omega
          have f2 : rd_T31 (q ++ [t]) (q.length : Int) = t := by rw [rd_at _ _ (by rw [hq]; omega)]; simp
          rw [show (q ++ [t]).getLast? = some t by simp, if_pos (by rw [hq]; omega), f1, if_pos (by omega), if_pos (by rw [hq]; omega), if_pos (by omega), if_pos (by omega), f2]
          dsimp only
          by_cases c : t.f1 = x - 1
          · rw [if_pos c, if_pos c, if_pos (by omega), if_pos (by omega), Int.toNat_natCast, step_set, List.dropLast_concat]
          · rw [if_neg c, if_neg c, if_pos (by omega), if_pos (by omega), if_pos (by rw [hq]; omega)]
    have j1 : Ev (fun k => caravanref1_Mix.j1 k how a b m out (i : Int) (sayS a x) (sayS b x) (sayS a x || sayS b x)) (mixL (fun n => mixP how (sayS a n) (sayS b n)) (m.drop (i + 1)) (if mixP how (sayS a x) (sayS b x) = true then addM out x y else out)) := by
      refine Ev.next (fun k => ?_) j2
      rw [caravanref1_Mix.j1]
      unfold mixP
      by_cases c1 : how = 1
      · rw [if_pos c1, if_pos c1]; cases sayS a x <;> rfl
      · rw [if_neg c1, if_neg c1]
        by_cases c2 : how = 2
        · rw [if_pos c2, if_pos c2]; cases sayS a x <;> rfl
        · rw [if_neg c2, if_neg c2]
    have ka := rhas_ev a (by omega) x
    have kb := rhas_ev b (by omega) x
    refine Ev.next (f := fun k => (caravanref1_Has.f k a x).bind fun t => (caravanref1_Has.f k b x).bind fun u => if t = true then caravanref1_Mix.j1 k how a b m out (i : Int) t u true else caravanref1_Mix.j1 k how a b m out (i : Int) t u u) (fun k => ?_) (Ev.seq ka (Ev.seq kb (Ev.fn (fun k => ?_) j1)))
    · rw [caravanref1_Mix.l0, ew, r1, if_pos (by omega), if_pos (by omega), if_pos (by omega)]
    · cases sayS a x with
      | true => rw [if_pos rfl, Bool.true_or]
      | false => rw [if_neg (by decide), Bool.false_or]
theorem mix_ev (how : Int) (a b : List S31) (ha : a.length ≤ 100000000) (hb : b.length ≤ 100000000) (hw : ∀ s ∈ a ++ b, -9223372036854775808 ≤ s.f1) : Ev (fun k => caravanref1_Mix.f k how a b) (mixR how a b) := by
  have hs := marks_spec (a ++ b)
  have hl := hs.2.2.2.2.1
  rw [List.length_append] at hl
  exact Ev.seq (marks_ev a b ha hb hw) (mix_loop how a b ha hb (marksL (a ++ b)) hs.2.1 (by omega) (marksL (a ++ b)).length 0 (by omega) [] (by simp))
theorem rnorm_ev (a : List S31) (ha : a.length ≤ 100000000) (hw : ∀ s ∈ a, -9223372036854775808 ≤ s.f1) : Ev (fun k => caravanref1_Norm.f k a) (normS a) :=
  Ev.seq (mix_ev 0 a [] ha (by simp) (by simpa using hw)) (Ev.const (congrArg some (mixR_norm a)))
theorem same_loop (a b : List S31) (ha : a.length ≤ 1000000000000) (he : a.length = b.length) : ∀ n j, j + n = a.length → Ev (fun k => caravanref1_SameSpans.l0 k a b (j : Int)) (decide (a.drop j = b.drop j))
  | 0, j, hj => by
    refine Ev.next (f := fun _ => some true) (fun k => by rw [caravanref1_SameSpans.l0, if_neg (by omega)]) (Ev.const ?_)
    rw [List.drop_of_length_le (by omega), List.drop_of_length_le (by omega)]; rfl
  | n + 1, j, hj => by
    have h1 : j < a.length := by omega
    have h2 : j < b.length := by omega
    have ew := wj j (by omega)
    have ih := same_loop a b ha he n (j + 1) (by omega)
    have st : ∀ k, caravanref1_SameSpans.l0 (k + 1) a b (j : Int) = if (!(a[j].f0 == b[j].f0) || (!(a[j].f1 == b[j].f1))) = true then some false else caravanref1_SameSpans.l0 k a b ((j + 1 : Nat) : Int) := fun k => by
      rw [caravanref1_SameSpans.l0, if_pos (by omega), if_pos (by omega), if_pos (by omega), rd_at a j h1, rd_at b j h2, ew]
    rw [List.drop_eq_getElem_cons h1, List.drop_eq_getElem_cons h2]
    by_cases c : a[j] = b[j]
    · refine Ev.next (fun k => by rw [st, if_neg (by rw [c]; simp)]) (Ev.same ih (dec_yes c _ _))
    · refine Ev.next (f := fun _ => some false) (fun k => by
        rw [st, if_pos]
        rw [Bool.or_eq_true, Bool.not_eq_true', Bool.not_eq_true', beq_eq_false_iff_ne, beq_eq_false_iff_ne]
        by_cases d : a[j].f0 = b[j].f0
        · refine .inr fun e => c ?_
          cases hA : a[j]; cases hB : b[j]
          rw [hA, hB] at d e
          simp only at d e; rw [d, e]
        · exact .inl d) (Ev.const (congrArg some (dec_no c _ _)))
theorem same_ev (a b : List S31) (ha : a.length ≤ 1000000000000) : Ev (fun k => caravanref1_SameSpans.f k a b) (decide (a = b)) := by
  by_cases c : a.length = b.length
  · exact Ev.fn (fun k => by unfold caravanref1_SameSpans.f; rw [if_pos (by omega)]; rfl) (Ev.same (same_loop a b ha c a.length 0 (by omega)) (by rw [List.drop_zero, List.drop_zero]))
  · exact Ev.fn (f := fun _ => some false) (fun k => by unfold caravanref1_SameSpans.f; rw [if_neg (by omega)]) (Ev.const (by rw [decide_eq_false (fun e => c (by rw [e]))]))
end Go.Proofs.YtnlakdpfkgjdaaaDoor.G

/- What the program's functions on spans come to from some number of rounds on. Conditions: bounds on lengths. -/
namespace Go.Proofs.YtnlakdpfkgjdaaaDoor.Pure
open Go.RowKit Go.Pk Go.Cav Go.Proofs.YtnlakdpfkgjdaaaDoor.G Go.Proofs.YtnlakdpfkgjdaaaDoorW.PrintWords Go.Proofs.YtnlakdpfkgjdaaaDoorW.PrintLast Go.Proofs.YtnlakdpfkgjdaaaDoorW.PrintMore
theorem awake_ev : Ev (fun k => caravanlaw2_awake.f k) true := ⟨3, fun k hk => by
  obtain ⟨d, rfl⟩ : ∃ d, k = d + 3 := ⟨k - 3, by omega⟩
  exact awake_ok d⟩
/-- from some number of rounds on -/
theorem ev_from {α : Type} {g : Nat → Option α} {r : α} (n : Nat) (h : ∀ k, g (k + n + 1) = some r) : Ev g r := ⟨n + 1, fun k hk => by
  obtain ⟨d, rfl⟩ : ∃ d, k = d + n + 1 := ⟨k - (n + 1), by omega⟩
  exact h d⟩
theorem pmay_ev (l : List S31) (hl : l.length ≤ 1000000) : Ev (fun k => spans_May.f k l) (mayB l) := ev_from l.length (may_f l (by omega))
theorem pnorm_ev (l : List S31) (hl : l.length ≤ 1000000) : Ev (fun k => spans_Norm.f k l) (normS l) := ev_from l.length (norm_f l (by omega))
theorem pcount_ev (l : List S31) (hl : l.length ≤ 1000000) : Ev (fun k => spans_Count.f k l) (widS (normS l)) := ev_from l.length (count_f l (by omega))
theorem ptext_ev (l : List S31) (hl : l.length ≤ 1000000) : Ev (fun k => spans_Text.f k l) (textS l) := ev_from l.length (text_f l (by omega))
theorem phas (l : List S31) (n : Int) (hl : l.length ≤ 1000000) : spans_Has.f l n = some (sayS l n) := by unfold spans_Has.f; rw [if_pos (by omega)]
theorem awake_some : Ev (fun k => (caravanlaw2_awake.f k).bind fun u => some u) true := Ev.seq awake_ev (f := fun _ u => some u) (Ev.now true)
theorem if_true_ev {α : Type} {a b : Nat → Option α} {p : Bool} {r : α} (hp : p = true) (h : Ev a r) : Ev (fun k => if p = true then a k else b k) r := Ev.fn (fun k => by rw [if_pos hp]) h
end Go.Proofs.YtnlakdpfkgjdaaaDoor.Pure

/- What Both and Minus say, and how many slots; what both texts of spans come to in the laws. Conditions: bounds on lengths. -/
namespace Go.Proofs.YtnlakdpfkgjdaaaDoor.Pure
open Go.RowKit Go.Pk Go.Cav Go.Proofs.YtnlakdpfkgjdaaaDoor.G Go.Proofs.YtnlakdpfkgjdaaaDoorW.PrintWords Go.Proofs.YtnlakdpfkgjdaaaDoorW.PrintLast Go.Proofs.YtnlakdpfkgjdaaaDoorW.PrintMore
theorem say_in {l : List S31} {n : Int} (h : sayS l n = true) : 0 ≤ n ∧ n ≤ 16383 := by
  unfold sayS at h
  simp only [Bool.and_eq_true, decide_eq_true_eq] at h
  exact h.1
theorem both_spec (x y : List S31) : mayS (bothS x y) ∧ ∀ n, hasS (bothS x y) n = (sayS x n && sayS y n) := by
  unfold bothS
  refine ⟨(norm_spec _).1, fun n => ?_⟩
  rw [(norm_spec _).2]
  have hx := norm_spec x
  have hy := norm_spec y
  have hp := pairs_has ((normS x).length + (normS y).length) (normS x) (normS y) (-1) (-1) (Nat.le_refl _) hx.1 hy.1 n
  rw [hx.2, hy.2] at hp
  unfold sayS at hp ⊢
  rw [hp]
  cases decide (0 ≤ n) <;> cases decide (n ≤ 16383) <;> simp
theorem both_say (x y : List S31) (n : Int) : sayS (bothS x y) n = (sayS x n && sayS y n) := by rw [sayS_may (both_spec x y).1, (both_spec x y).2]
theorem gaps_say (y : List S31) (n : Int) : sayS (gapsF 0 (normS y)) n = (decide (0 ≤ n) && decide (n ≤ 16383) && !sayS y n) := by
  by_cases c : 0 ≤ n ∧ n ≤ 16383
  · have hg := gaps_has (normS y) 0 (-1) (norm_spec y).1 (by omega) (by omega) n c.1 c.2
    rw [(norm_spec y).2] at hg
    unfold sayS at hg ⊢
    rw [hg]
  · have : (decide (0 ≤ n) && decide (n ≤ 16383)) = false := by rw [Bool.and_eq_false_iff, decide_eq_false_iff_not, decide_eq_false_iff_not]; omega
    unfold sayS
    rw [this]; rfl
theorem minus_say (x y : List S31) (n : Int) : sayS (minusS x y) n = (sayS x n && !sayS y n) := by
  unfold minusS
  rw [both_say, gaps_say]
  cases h : sayS x n with
  | false => rfl
  | true =>
    have := say_in h
    rw [decide_eq_true this.1, decide_eq_true this.2]; simp
theorem minus_may (x y : List S31) : mayS (minusS x y) := (both_spec _ _).1
theorem mix2 (x y : List S31) : mixR 2 x y = bothS x y := by
  refine mayS_unique (mixR_spec 2 x y).1 (both_spec x y).1 fun n a b => ?_
  rw [← sayS_may (mixR_spec 2 x y).1, ← sayS_may (both_spec x y).1, mixR_say, both_say, decide_eq_true a, decide_eq_true b]
  rfl
theorem mix1 (x y : List S31) : mixR 1 x y = minusS x y := by
  refine mayS_unique (mixR_spec 1 x y).1 (minus_may x y) fun n a b => ?_
  rw [← sayS_may (mixR_spec 1 x y).1, ← sayS_may (minus_may x y), mixR_say, minus_say, decide_eq_true a, decide_eq_true b]
  rfl
theorem both_len (x y : List S31) : (bothS x y).length ≤ x.length + y.length := by
  have a := normS_len ((pairsS ((normS x).length + (normS y).length) (normS x) (normS y)).map meetS)
  have b := pairs_len ((normS x).length + (normS y).length) (normS x) (normS y)
  have c := normS_len x
  have d := normS_len y
  rw [List.length_map] at a
  unfold bothS; omega
theorem minus_len (x y : List S31) : (minusS x y).length ≤ x.length + y.length + 1 := by
  have a := both_len x (gapsF 0 (normS y))
  have b := gaps_len (normS y) 0
  have c := normS_len y
  unfold minusS; omega
theorem wid_say (l : List S31) : widS (normS l) = (numS (sayS l) : Nat) := by
  rw [wid_num (normS l) (-1) (norm_spec l).1 (Int.le_refl _), show numS (hasS (normS l)) = numS (sayS l) from num_ext fun n _ _ => (norm_spec l).2 n]
theorem num_sum (p q : Int → Bool) : numS (fun n => p n || q n) + numS (fun n => p n && q n) = numS p + numS q := by
  have a := num_or (fun n => p n && !q n) q (fun n h => by simp at h; rw [h.2] at h; simp at h)
  have b := num_or (fun n => p n && !q n) (fun n => p n && q n) (fun n h => by
    simp at h; rw [h.2.2] at h; simp at h)
  have ea : numS (fun n => (p n && !q n) || q n) = numS (fun n => p n || q n) := num_ext fun n _ _ => by cases p n <;> cases q n <;> rfl
  have eb : numS (fun n => (p n && !q n) || (p n && q n)) = numS p := num_ext fun n _ _ => by cases p n <;> cases q n <;> rfl
  omega
theorem num_diff (p q : Int → Bool) : numS (fun n => p n && !q n) + numS (fun n => p n && q n) = numS p := by
  have b := num_or (fun n => p n && !q n) (fun n => p n && q n) (fun n h => by
    simp at h; rw [h.2.2] at h; simp at h)
  have eb : numS (fun n => (p n && !q n) || (p n && q n)) = numS p := num_ext fun n _ _ => by cases p n <;> cases q n <;> rfl
  omega
theorem wid_le (l : List S31) : 0 ≤ widS (normS l) ∧ widS (normS l) ≤ 16384 := by
  rw [wid_say]
  have := num_le (sayS l)
  generalize numS (sayS l) = n at *
  omega
theorem laws_num (a b : List S31) : widS (normS (normS (a ++ b))) + widS (normS (bothS a b)) = widS (normS a) + widS (normS b) ∧ widS (normS (minusS a b)) + widS (normS (bothS a b)) = widS (normS a) := by
  rw [wid_say, wid_say, wid_say, wid_say, wid_say]
  have eu : numS (sayS (normS (a ++ b))) = numS (fun n => sayS a n || sayS b n) := num_ext fun n _ _ => by rw [norm_say, sayS_app]
  have ex : numS (sayS (bothS a b)) = numS (fun n => sayS a n && sayS b n) := num_ext fun n _ _ => both_say a b n
  have em : numS (sayS (minusS a b)) = numS (fun n => sayS a n && !sayS b n) := num_ext fun n _ _ => minus_say a b n
  have s1 := num_sum (sayS a) (sayS b)
  have s2 := num_diff (sayS a) (sayS b)
  rw [← eu, ← ex] at s1
  rw [← em, ← ex] at s2
  clear eu ex em
  generalize numS (sayS a) = na at *
  generalize numS (sayS b) = nb at *
  generalize numS (sayS (normS (a ++ b))) = nu at *
  generalize numS (sayS (bothS a b)) = nx at *
  generalize numS (sayS (minusS a b)) = nm at *
  omega
theorem union_some (a b : List S31) (ha : a.length ≤ 1000000) (hb : b.length ≤ 1000000) : spans_Union.f a b = some (normS (a ++ b)) := by unfold spans_Union.f; rw [if_pos ⟨by omega, by omega⟩]
theorem both_some (a b : List S31) (ha : a.length ≤ 1000000) (hb : b.length ≤ 1000000) : spans_Both.f a b = some (bothS a b) := by unfold spans_Both.f; rw [if_pos ⟨by omega, by omega⟩]
theorem minus_some (a b : List S31) (ha : a.length ≤ 1000000) (hb : b.length ≤ 1000000) : spans_Minus.f a b = some (minusS a b) := by unfold spans_Minus.f; rw [if_pos ⟨by omega, by omega⟩]
theorem same_eq {a b : List S31} (h : a = b) (hl : a.length ≤ 10000000) : Ev (fun k => caravanref1_SameSpans.f k a b) true := by
  subst h; exact Ev.same (same_ev a a (by omega)) (decide_eq_true rfl)
end Go.Proofs.YtnlakdpfkgjdaaaDoor.Pure

/- For all numbers: spans together and both do not hang on the order, without and both make the whole, counts add up. No conditions. -/
namespace Go.Proofs.YtnlakdpfkgjdaaaDoor.Pure
open Go.RowKit Go.Pk Go.Cav Go.Proofs.YtnlakdpfkgjdaaaDoor.G Go.Proofs.YtnlakdpfkgjdaaaDoorW.PrintWords Go.Proofs.YtnlakdpfkgjdaaaDoorW.PrintLast Go.Proofs.YtnlakdpfkgjdaaaDoorW.PrintMore
theorem make_loop (ns : List Int) (ha : ns.length ≤ 1000) : ∀ n i, ns.length ≤ i + n → i ≤ ns.length + 2 → ∀ out : List S31, out.length ≤ i → ∃ l, Ev (fun k => caravanlaw2_Make.l0 k ns out (i : Int)) l ∧ l.length ≤ ns.length + 2 := by
  intro n
  induction n using Nat.strongRecOn with
  | _ n ih =>
    intro i hi h2 out ho
    have ew := wj i (by omega)
    by_cases c : i + 1 < ns.length
    · have e2 : wrap64 ((i : Int) + 2) = ((i + 2 : Nat) : Int) := by rw [Go.Proofs.YtnlakdpfkgjdaaaDoor.G.w64 _ (by omega) (by omega)]; omega
      obtain ⟨l, hl, hb⟩ := ih (n - 2) (by omega) (i + 2) (by omega) (by omega) _ (show (out ++ [(⟨Int.tmod (wrap64 (rd ns (i : Int))) 16384, mn 16383 (wrap64 ((Int.tmod (wrap64 (rd ns (i : Int))) 16384) + (Int.tmod (wrap64 (rd ns ((i + 1 : Nat) : Int))) 300)))⟩ : S31)]).length ≤ i + 2 by simp; omega)
      exact ⟨l, Ev.next (fun k => by rw [caravanlaw2_Make.l0, ew, e2, if_pos (by omega), if_pos (by omega), if_pos (by omega), if_pos (by omega), if_pos (by omega)]) hl, hb⟩
    · exact ⟨out, Ev.next (f := fun _ => some out) (fun k => by rw [caravanlaw2_Make.l0, ew, if_neg (by omega)]) (Ev.now out), by omega⟩
theorem make_ev (ns : List Int) (ha : ns.length ≤ 1000) : ∃ l, Ev (fun k => caravanlaw2_Make.f k ns) l ∧ l.length ≤ ns.length + 2 := make_loop ns ha ns.length 0 (by omega) (by omega) [] (by simp)
set_option maxHeartbeats 1000000 in
theorem laws_ev (ns ms : List Int) : Ev (fun k => caravanlaw2_SpansLaws.f k ns ms) true := by
  have yes : Ev (fun k => caravanlaw2_SpansLaws.j0 k ns ms true) true := Ev.next (fun k => by rw [caravanlaw2_SpansLaws.j0, if_pos rfl]) awake_some
  by_cases c : (ns.length : Int) > 40
  · exact Ev.fn (fun k => by unfold caravanlaw2_SpansLaws.f; rw [if_pos c]) yes
  by_cases d : (ms.length : Int) > 40
  · exact Ev.fn (fun k => by unfold caravanlaw2_SpansLaws.f; rw [if_neg c, decide_eq_true d]) yes
  refine Ev.fn (fun k => by unfold caravanlaw2_SpansLaws.f; rw [if_neg c, decide_eq_false d]) ?_
  obtain ⟨a, ma, la⟩ := make_ev ns (by omega)
  obtain ⟨b, mb, lb⟩ := make_ev ms (by omega)
  have ha : a.length ≤ 42 := by omega
  have hb : b.length ≤ 42 := by omega
  clear la lb c d yes
  have hl0 := normS_len (a ++ b)
  rw [List.length_append] at hl0
  have hl1 := minus_len a b
  have hl2 := both_len a b
  have hl3 := both_len b a
  have hl4 := both_len (minusS a b) b
  have u1 : normS (a ++ b) = normS (b ++ a) := norm_ext fun n _ _ => by rw [sayS_app, sayS_app, Bool.or_comm]
  have x1 : bothS a b = bothS b a := mayS_unique (both_spec a b).1 (both_spec b a).1 fun n _ _ => by rw [(both_spec a b).2, (both_spec b a).2, Bool.and_comm]
  have w1 : normS (minusS a b ++ bothS a b) = normS a := norm_ext fun n _ _ => by rw [sayS_app, minus_say, both_say]; cases sayS a n <;> cases sayS b n <;> rfl
  have z1 : bothS (minusS a b) b = [] := mayS_unique (both_spec _ _).1 (show mayS [] from trivial) fun n _ _ => by rw [(both_spec _ _).2, minus_say, hasS_nil]; cases sayS a n <;> cases sayS b n <;> rfl
  have cu := pcount_ev (normS (a ++ b)) (by omega)
  have ca := pcount_ev a (by omega)
  have cb := pcount_ev b (by omega)
  have cx := pcount_ev (bothS a b) (by omega)
  have cm := pcount_ev (minusS a b) (by omega)
  have q := laws_num a b
  have b1 := wid_le a
  have b2 := wid_le b
  have b3 := wid_le (bothS a b)
  generalize widS (normS (normS (a ++ b))) = nu at *
  generalize widS (normS (bothS a b)) = nx at *
  generalize widS (normS (minusS a b)) = nm at *
  generalize widS (normS a) = na at *
  generalize widS (normS b) = nb at *
  have q1 : nu = wrap64 (wrap64 (na + nb) - nx) := by rw [Go.Proofs.YtnlakdpfkgjdaaaDoor.G.w64 (na + nb) (by omega) (by omega), Go.Proofs.YtnlakdpfkgjdaaaDoor.G.w64 _ (by omega) (by omega)]; omega
  have q2 : nm = wrap64 (na - nx) := by rw [Go.Proofs.YtnlakdpfkgjdaaaDoor.G.w64 _ (by omega) (by omega)]; omega
  clear q b1 b2 b3
  have pu : Ev (fun _ => spans_Union.f a b) _ := Ev.const (union_some a b (by omega) (by omega))
  have pm : Ev (fun _ => spans_Minus.f a b) _ := Ev.const (minus_some a b (by omega) (by omega))
  have pb : Ev (fun _ => spans_Both.f a b) _ := Ev.const (both_some a b (by omega) (by omega))
  have pu2 : Ev (fun _ => spans_Union.f b a) _ := Ev.const (union_some b a (by omega) (by omega))
  have pb2 : Ev (fun _ => spans_Both.f b a) _ := Ev.const (both_some b a (by omega) (by omega))
  have pu3 : Ev (fun _ => spans_Union.f (minusS a b) (bothS a b)) _ := Ev.const (union_some (minusS a b) (bothS a b) (by omega) (by omega))
  have pb3 : Ev (fun _ => spans_Both.f (minusS a b) b) _ := Ev.const (both_some (minusS a b) b (by omega) (by omega))
  refine Ev.next (fun k => by rw [caravanlaw2_SpansLaws.j0, if_neg (by decide)]) ?_
  refine Ev.seq ma ?_
  refine Ev.seq mb ?_
  refine Ev.seq pu ?_
  refine Ev.seq pm ?_
  refine Ev.seq pb ?_
  refine Ev.seq pu2 ?_
  refine Ev.seq (same_eq u1 (by omega)) ?_
  refine if_true_ev rfl ?_
  refine Ev.seq pb2 ?_
  refine Ev.seq (same_eq x1 (by omega)) ?_
  refine if_true_ev rfl ?_
  refine Ev.seq pu3 ?_
  refine Ev.seq (pnorm_ev a (by omega)) ?_
  refine Ev.seq (same_eq w1 (by rw [w1]; have := normS_len a; omega)) ?_
  refine if_true_ev rfl ?_
  refine Ev.seq pb3 ?_
  refine Ev.fn (fun k => by rw [z1, if_pos (show ((([] : List S31).length : Nat) : Int) = 0 from rfl)]) ?_
  refine Ev.seq cu ?_
  refine Ev.seq ca ?_
  refine Ev.seq cb ?_
  refine Ev.seq cx ?_
  refine Ev.fn (fun k => by rw [if_pos q1]) ?_
  refine Ev.seq cm ?_
  refine Ev.seq ca ?_
  refine Ev.seq cx ?_
  refine Ev.fn (fun k => by rw [if_pos q2]) ?_
  exact awake_some
theorem SpansLaws : caravanlaw2_SpansLaws.Pure := by
  intro l0 l1
  intros
  exact Ev.rounds (laws_ev l0 l1)
end Go.Proofs.YtnlakdpfkgjdaaaDoor.Pure
