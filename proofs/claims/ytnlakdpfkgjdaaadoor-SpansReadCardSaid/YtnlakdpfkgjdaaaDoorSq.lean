/- What the library's SplitSeq at a comma hands on: the pieces of the text. Condition: a bound on the text's length. -/
import Derived.Test.YtnlakdpfkgjdaaaDoorWd
import Derived.Test.YtnlakdpfkgjdaaaDoorCavS
import Derived.BigRegionIn
import Derived.RegionIn
import Derived.BigQuiet
import Derived.Sort.BigQuietIn
import Derived.Lib.IndexBytes
import Derived.Lib.IndexLaws
namespace Go.Proofs.YtnlakdpfkgjdaaaDoor
open Go.RowKit Go.Shelf Go.Cav
attribute [local go_sem] Oper.semAt_some

/-- the pieces of a text at its commas -/
def cutB (s : ByteArray) : List ByteArray := (cutAt 44 s.data.toList).map fun p => ⟨p.toArray⟩
theorem cut_index (c : UInt8) : ∀ l : List UInt8, (Lib.index l [c] = -1 ∧ cutAt c l = [l]) ∨ ∃ i : Nat, Lib.index l [c] = i ∧ i < l.length ∧ cutAt c l = l.take i :: cutAt c (l.drop (i + 1))
  | [] => .inl ⟨rfl, rfl⟩
  | b :: l => by
    by_cases h : b = c
    · subst h
      refine .inr ⟨0, by rw [Lib.index]; simp [List.isPrefixOf], by simp, ?_⟩
      rw [cutAt, if_pos rfl]; rfl
    · rw [cutAt, if_neg h, index_one_ne b c l h]
      rcases cut_index c l with ⟨h1, h2⟩ | ⟨i, h1, h2, h3⟩
      · refine .inl ⟨by rw [h1]; rfl, by rw [h2]; rfl⟩
      · refine .inr ⟨i + 1, ?_, by simp; omega, ?_⟩
        · rw [h1, if_neg (fun e => by have := beq_iff_eq.1 e; omega)]; simp
        · rw [h3]; rfl
theorem cutB_index (s : ByteArray) : (Lib.index s.data.toList [44] = -1 ∧ cutB s = [s]) ∨ ∃ i : Nat, Lib.index s.data.toList [44] = i ∧ i < s.size ∧ cutB s = s.extract 0 i :: cutB (s.extract (i + 1) s.size) := by
  unfold cutB
  rcases cut_index 44 s.data.toList with ⟨h1, h2⟩ | ⟨i, h1, h2, h3⟩
  · exact .inl ⟨h1, by rw [h2]; rfl⟩
  · refine .inr ⟨i, h1, by rw [Array.length_toList] at h2; exact h2, ?_⟩
    rw [h3, List.map_cons]
    congr 1
    · apply ByteArray.ext
      rw [ByteArray.data_extract]
      apply Array.ext'; simp
    · have e : (s.extract (i + 1) s.size).data.toList = s.data.toList.drop (i + 1) := by
        rw [ByteArray.data_extract, Array.toList_extract, List.extract_eq_take_drop]
        exact List.take_of_length_le (by rw [List.length_drop, Array.length_toList]; exact Nat.le_refl _)
      rw [e]

/-- the iterator's own steps: it turns one box -/
def Own1 (B : Nat) (X Y : World) : Prop := Stir (fun k => k = B) X Y ∧ ∃ o : Obj, X.heap[B]? = some o ∧ o.isCells = true
theorem own1_plain (B : Nat) : Plain (Own1 B) := by
  intro X Y i o h hi hc _
  refine (h.1.block i (lt_of_heap hi) (fun e => ?_)).trans hi
  obtain ⟨o', h1, h2⟩ := h.2
  rw [e] at hi
  rw [hi] at h1; cases h1; rw [hc] at h2; cases h2
theorem boxed_stir {S : Nat → Prop} {W W' : World} {B t : Nat} {v : Value} (h : Boxed W B t v) (hs : Stir S W W') (hn : ¬ S B) : Boxed W' B t v := by
  have hb := h
  unfold Boxed at hb ⊢
  exact (hs.block B h.lt hn).trans hb
def lenS : Option Value → Nat
  | some (.string x) => x.size
  | _ => 0

set_option maxRecDepth 100000 in
set_option maxHeartbeats 4000000 in
theorem commas_in (T : Nat → Prop) (Bp Bs B0 : Nat) (m : Int) (hps : Bp ≠ Bs) (h0s : B0 ≠ Bs) (hgs : 0 ≠ Bs) (hTp : ¬ T Bp) (hTs : ¬ T Bs) (hT0 : ¬ T B0) (hTg : ¬ T 0) (n : Nat) (hn : 1 ≤ n) (l : Nat) (s0 : ByteArray) (hm : s0.size ≤ 4000000000)
    (J Jx : List ByteArray → World → Prop) (W : World)
    (hJ : ∀ s A B, J s A → Own1 Bs A B → J s B)
    (hY : ∀ pre x W1, x.size ≤ 4000000000 → J pre W1 → pre.length < (cutB s0).length → YieldAt Fence.wide (n - 1) Tryd.prog l #[.string x] W1 fun e W' =>
      (e = .returned (.bool true) ∧ J (pre ++ [x]) W' ∧ Stir T W1 W') ∨ (e = .returned (.bool false) ∧ Jx (pre ++ [x]) W'))
    (bp : Boxed W Bp 9 (.string ⟨#[44]⟩)) (bs : Boxed W Bs 9 (.string s0)) (b0 : Boxed W B0 3 (.int .i64 0)) (hg : W.cell? ⟨0, 0, none⟩ = some (.int .i64 m)) (h0 : J [] W) :
    CallsIn Fence.wide n Tryd.prog 59 #[.func (.yield l) #[] #[], .pointer (some ⟨Bp, 0, none⟩), .pointer (some ⟨Bs, 0, none⟩), .pointer (some ⟨B0, 0, none⟩)] W fun e W' => (∃ v, e = .returned v) ∧
      ((∃ xs, xs = cutB s0 ∧ J xs W') ∨ (∃ pre, pre <+: cutB s0 ∧ Jx pre W')) := by
  refine callsIn_of_wp Tryd.func59 rfl trivial ?_ rfl
  simp only [Tryd.ntmps59, List.size_toArray, List.length_cons, List.length_nil, Nat.reduceAdd, Nat.reduceSub, Array.replicate_succ, Array.replicate_zero, List.push_toArray, List.append_toArray, List.nil_append, List.cons_append]
  have HB := Lib.hid (And.intro bs (And.intro b0 hg))
  have Hbp := Lib.hid bp
  have c1 := bp.cell
  clear bs b0 bp hg
  gi_wp2
  clear c1
  gi_loopw [] (fun wr => ∃ pre x, Hid (pre ++ cutB x = cutB s0) ∧ x.size ≤ 4000000000 ∧ Hid (J pre wr) ∧ Hid (Boxed wr Bp 9 (.string ⟨#[44]⟩)) ∧ Hid (Boxed wr Bs 9 (.string x) ∧ Boxed wr B0 3 (.int .i64 0) ∧ wr.cell? ⟨0, 0, none⟩ = some (.int .i64 m))) (fun wr => lenS (wr.cell? ⟨Bs, 0, none⟩))
  case atStart => exact ⟨[], s0, rfl, hm, h0, Hbp, HB⟩
  case round =>
    obtain ⟨pre, x, HT, hlen, HJ, Hbp, HB⟩ := hrel
    clear h0
    obtain ⟨bs, b0, hg⟩ := HB.out
    have c1 := Hbp.out.cell
    have c2 := bs.cell
    have c3 := b0.cell
    have f2 := bs.frozen
    have hml : Hid (lenS (wr.cell? ⟨Bs, 0, none⟩) = x.size) := by rw [c2]; rfl
    have hI := (callsIn_wide (n := n - 1)).2 (Tryd.strings_Index x ⟨#[44]⟩ m wr (by omega) hg)
    have Hbs := Lib.hid bs
    have Hb0 := Lib.hid b0
    have Hg := Lib.hid hg
    clear bs b0 hg HB
    rcases cutB_index x with ⟨hi, hc⟩ | ⟨i, hi, hil, hc⟩
    · rw [show (ByteArray.mk #[44]).data.toList = [44] from rfl, hi] at hI
      have HC := Lib.hid hc
      clear hi hc
      have hpl : pre.length < (cutB s0).length := by rw [← HT.out, HC.out]; simp
      obtain ⟨fn, tmps, assign, body, hy, hR⟩ := hY pre x wr hlen HJ.out hpl
      try dsimp only at hy hR
      gi_wp2_with fail
      refine ⟨trivial, hI.mono ?_⟩
      rintro e w1 ⟨rfl, rfl⟩
      clear hI
      gi_wp2_with fail
      refine hR.mono ?_
      rintro e W3 (⟨rfl, hJ3, hk3⟩ | ⟨rfl, hJx3⟩)
      · clear hy hR c1 c2 c3 f2
        gi_wp2
        go_end0
        exact ⟨⟨_, rfl⟩, .inl ⟨_, by rw [← HT.out, HC.out], hJ3⟩⟩
      · clear hy hR c1 c2 c3 f2
        gi_wp2
        go_end0
        exact ⟨⟨_, rfl⟩, .inr ⟨_, by rw [← HT.out, HC.out]; exact List.prefix_refl _, hJx3⟩⟩
    · rw [show (ByteArray.mk #[44]).data.toList = [44] from rfl, hi] at hI
      have HC := Lib.hid hc
      clear hi hc
      have hpl : pre.length < (cutB s0).length := by rw [← HT.out, HC.out]; simp
      have htw : pre ++ [x.extract 0 i] ++ cutB (x.extract (i + 1) x.size) = cutB s0 := by rw [← HT.out, HC.out]; simp
      have HT2 := Lib.hid htw
      have hle : (x.extract (i + 1) x.size).size ≤ 4000000000 ∧ (x.extract (i + 1) x.size).size < x.size := by rw [ByteArray.size_extract]; omega
      have HLE := Lib.hid hle
      clear htw hle
      have e1 : ¬ (i : Int) < 0 := by omega
      obtain ⟨fn, tmps, assign, body, hy, hR⟩ := hY pre (x.extract 0 i) wr (by rw [ByteArray.size_extract]; omega) HJ.out hpl
      gi_wp2_with fail
      refine ⟨trivial, hI.mono ?_⟩
      rintro e w1 ⟨rfl, rfl⟩
      clear hI
      gi_wp2_with fail
      refine hR.mono ?_
      rintro e W3 (⟨rfl, hJ3, hk3⟩ | ⟨rfl, hJx3⟩)
      · clear hy hR c1 c2 c3 f2
        have bs3 := boxed_stir Hbs.out hk3 hTs
        have bp3 := boxed_stir Hbp.out hk3 hTp
        have b03 := boxed_stir Hb0.out hk3 hT0
        have hg3 := hk3.cell Hg.out hTg
        have c1 := bp3.cell
        have c2 := bs3.cell
        have f2 := bs3.frozen
        have hst : Stir (fun k => k = Bs) W3 (W3.setCell ⟨Bs, 0, none⟩ (.string (x.extract (i + 1) x.size))) := (Stir.refl (fun k => k = Bs) W3).setCell (p := ⟨Bs, 0, none⟩) (fun _ => rfl) _
        have hF : Hid (J (pre ++ [x.extract 0 i]) (W3.setCell ⟨Bs, 0, none⟩ (.string (x.extract (i + 1) x.size))) ∧ Boxed (W3.setCell ⟨Bs, 0, none⟩ (.string (x.extract (i + 1) x.size))) Bp 9 (.string ⟨#[44]⟩) ∧ Boxed (W3.setCell ⟨Bs, 0, none⟩ (.string (x.extract (i + 1) x.size))) Bs 9 (.string (x.extract (i + 1) x.size)) ∧ Boxed (W3.setCell ⟨Bs, 0, none⟩ (.string (x.extract (i + 1) x.size))) B0 3 (.int .i64 0) ∧ (W3.setCell ⟨Bs, 0, none⟩ (.string (x.extract (i + 1) x.size))).cell? ⟨0, 0, none⟩ = some (.int .i64 m)) :=
          Lib.hid ⟨hJ _ _ _ hJ3 ⟨hst, _, bs3, rfl⟩, boxed_stir bp3 hst hps, bs3.set _, boxed_stir b03 hst h0s, hst.cell hg3 hgs⟩
        clear hst bs3 bp3 b03 hg3 hJ3 hk3
        gi_wp2
        obtain ⟨g1, g2, g3, g4, g5⟩ := hF.out
        go_roundw
        case rel => exact ⟨_, _, HT2, HLE.out.1, Lib.hid g1, Lib.hid g2, Lib.hid ⟨g3, g4, g5⟩⟩
        case measure => rw [hml.out, g3.cell]; exact HLE.out.2
      · clear hy hR c1 c2 c3 f2
        gi_wp2
        refine bodyPost_ret (results_none rfl _ _ _) rfl ?_
        exact ⟨⟨_, rfl⟩, .inr ⟨_, ⟨_, HT2.out⟩, hJx3⟩⟩
/-- a piece, not too long -/
abbrev Pc : Type := { x : ByteArray // x.size ≤ 4000000000 }
theorem cutB_len (s : ByteArray) : (cutB s).length ≤ s.size + 1 := by
  unfold cutB
  rw [List.length_map]
  have key : ∀ l : List UInt8, (cutAt 44 l).length ≤ l.length + 1 := by
    intro l
    induction l with
    | nil => simp [cutAt]
    | cons b l ih =>
      rw [cutAt]
      split
      · simp; exact ih
      · cases h : cutAt 44 l with
        | nil => simp [headCons]
        | cons p r => rw [h] at ih; simp [headCons] at ih ⊢; omega
  have := key s.data.toList
  rw [Array.length_toList] at this
  exact this
theorem commas_seq (T : Nat → Prop) (Bp Bs B0 : Nat) (m : Int) (hps : Bp ≠ Bs) (h0s : B0 ≠ Bs) (hgs : 0 ≠ Bs) (hTp : ¬ T Bp) (hTs : ¬ T Bs) (hT0 : ¬ T B0) (hTg : ¬ T 0) (n : Nat) (hn : 1 ≤ n) (s0 : ByteArray) (hm : s0.size ≤ 4000000000) (w : World)
    (bp : Boxed w Bp 9 (.string ⟨#[44]⟩)) (bs : Boxed w Bs 9 (.string s0)) (b0 : Boxed w B0 3 (.int .i64 0)) (hg : w.cell? ⟨0, 0, none⟩ = some (.int .i64 m)) :
    SeqT Fence.wide n Tryd.prog 59 #[.pointer (some ⟨Bp, 0, none⟩), .pointer (some ⟨Bs, 0, none⟩), .pointer (some ⟨B0, 0, none⟩)] (fun x : Pc => #[.string x.1]) (Stir T) (Own1 Bs)
      (fun xs _ => xs.map (·.1) = cutB s0) (fun pre _ => pre.map (·.1) <+: cutB s0) (cutB s0).length w := by
  intro l J Jx W hW hJ _ hY h0
  have hs : Stir (fun _ => False) w W := Stir.of_below hW _
  refine (commas_in T Bp Bs B0 m hps h0s hgs hTp hTs hT0 hTg n hn l s0 hm (fun xs W => ∃ ys : List Pc, ys.map (·.1) = xs ∧ J ys W) (fun xs W => ∃ ys : List Pc, ys.map (·.1) = xs ∧ Jx ys W) W ?_ ?_ (boxed_stir bp hs (fun e => e)) (boxed_stir bs hs (fun e => e)) (boxed_stir b0 hs (fun e => e)) (hs.cell hg (fun e => e)) ⟨[], rfl, h0⟩).mono ?_
  · rintro xs X Y ⟨ys, e, h⟩ hr
    exact ⟨ys, e, hJ _ _ _ h hr⟩
  · rintro pre x W1 hx ⟨ys, e, h⟩ hl
    refine (?_ : _ → _) (hY ys ⟨x, hx⟩ W1 h (by rw [← e, List.length_map] at hl; exact hl))
    rintro ⟨fn, tmps, assign, body, hy, hR⟩
    refine ⟨fn, tmps, assign, body, hy, hR.mono ?_⟩
    rintro e' W' (⟨h1, h2, h3⟩ | ⟨h1, h2⟩)
    · exact .inl ⟨h1, ⟨_, by rw [List.map_append, e]; rfl, h2⟩, h3⟩
    · exact .inr ⟨h1, _, by rw [List.map_append, e]; rfl, h2⟩
  · rintro e' W' ⟨hv, (⟨xs, h1, ys, h2, h3⟩ | ⟨xs, h1, ys, h2, h3⟩)⟩
    · exact ⟨hv, .inl ⟨ys, h2.trans h1, h3⟩⟩
    · exact ⟨hv, .inr ⟨ys, by show ys.map (·.1) <+: _; rw [h2]; exact h1, h3⟩⟩
theorem split_any (s : ByteArray) (w : World) : Calls Tryd.prog 29 #[.string s, .string ⟨#[44]⟩] w fun e w' => e = .returned (.func (.func 59) #[] #[.pointer (some ⟨w.heap.size + 1, 0, none⟩), .pointer (some ⟨w.heap.size, 0, none⟩), .pointer (some ⟨w.heap.size + 2, 0, none⟩)]) ∧ w' = ((w.alloc (.cells #[.string s] 9)).alloc (.cells #[.string ⟨#[44]⟩] 9)).alloc (.cells #[.int .i64 0] 3) := by
  have h : Calls Tryd.prog 42 #[.string s, .string ⟨#[44]⟩, .int .i64 0] w fun e w' => e = .returned (.func (.func 59) #[] #[.pointer (some ⟨w.heap.size + 1, 0, none⟩), .pointer (some ⟨w.heap.size, 0, none⟩), .pointer (some ⟨w.heap.size + 2, 0, none⟩)]) ∧ w' = ((w.alloc (.cells #[.string s] 9)).alloc (.cells #[.string ⟨#[44]⟩] 9)).alloc (.cells #[.int .i64 0] 3) := by
    go_enter Tryd.func42, Tryd.ntmps42
    go_wp2
    go_ret
    exact ⟨by simp, rfl⟩
  go_enter Tryd.func29, Tryd.ntmps29
  go_wp2_with fail
  refine h.mono ?_
  rintro e w1 ⟨rfl, rfl⟩
  go_wp2
  go_ret
  exact ⟨rfl, rfl⟩
end Go.Proofs.YtnlakdpfkgjdaaaDoor
