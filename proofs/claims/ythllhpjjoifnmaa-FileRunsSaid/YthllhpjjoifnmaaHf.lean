/- The law of runs of acts: its walk. No conditions. -/
import Derived.Deep.RegionWith
import Derived.Deep.RegionHeld3
import Derived.Deep.CutRange
import Derived.Deep.CutBlock
import Derived.Deep.DeepCutAuto
import Derived.Test.YthllhpjjoifnmaaHe
import Derived.Test.YthllhpjjoifnmaaGa
namespace Go.Proofs.Ythllhpjjoifnmaa
open Go.RowKit Go.Cav

theorem add_at (a : Addr) (m k : Nat) (hk : 0 < k) : a.add (m + k) = ⟨(a.add m).block, (a.add m).off + k, none⟩ := by
  unfold Addr.add
  rw [if_neg (by omega)]
  by_cases hm : m = 0
  · subst hm; simp
  · rw [if_neg hm]; simp; omega

theorem acts_read {W : World} {v : Value} {l : List ActV} {b : Nat} (h : rSlice 6 b rAct W [v] l) : ∃ a0 c0, v = .slice a0 l.length c0 ∧ ∀ j x, l[j]? = some x → ∃ a : Addr, a0 = some a ∧ ∃ bv,
    W.cell? (a.add (j * 6)) = some (.int .i64 x.what) ∧ W.cell? (a.add (j * 6 + 1)) = some bv ∧ W.cell? (a.add (j * 6 + 2)) = some (.int .i64 x.n) ∧
    W.cell? (a.add (j * 6 + 3)) = some (.int .i64 x.plan.room) ∧ W.cell? (a.add (j * 6 + 4)) = some (.int .i64 x.plan.crash) ∧ W.cell? (a.add (j * 6 + 5)) = some (.int .i64 x.plan.keep) ∧
    ok64 x.n ∧ ok64 x.plan.crash ∧ ok64 x.plan.keep ∧ Reads W 1 bv x.b.length (x.b.map B8) := by
  rcases h with ⟨h1, rfl⟩ | ⟨a, cap, h1, h2, h3, _, hel⟩
  · cases h1; exact ⟨none, 0, rfl, fun j x hx => by simp at hx⟩
  · cases h1
    refine ⟨some a, cap, rfl, fun j x hx => ?_⟩
    obtain ⟨ci, c1, c2, bv, rfl, o1, _, o3, o4, hb⟩ := hel j x hx
    exact ⟨a, rfl, bv, c2 0 _ rfl, c2 1 _ rfl, c2 2 _ rfl, c2 3 _ rfl, c2 4 _ rfl, c2 5 _ rfl, o1, o3, o4, hb.bytes.1⟩

/-- the state of both before the first act -/
def St0 (r c k : Int) : St := ⟨[], [], r, c, k, 0, false⟩

theorem start_inv {W w0 w1 w2 : World} {g h : Nat} {r c k : Int} (h0 : Below W.heap.size W w0) (hF : FileAt w0.heap.size w1 g (fun i => w0.heap.size ≤ i ∧ i < w1.heap.size) (.slice none 0 0) (.slice none 0 0) (St0 r c k)) (ht : Stir (fun _ => False) w0 w1)
    (hh : w1.heap.size ≤ h) (hR : RAt w2 h (rc ⟨#[]⟩ ⟨#[]⟩ r (if 0 < c then c else 0) false)) (ht2 : Stir (fun _ => False) w1 w2) : Inv2 W g h (St0 r c k) (St0 r c k) w2 := by
  have hb := h0.trans (below_of_false ht h0.size)
  have hs0 := h0.size
  have hs1 := ht.size
  have hF1 : FileAt W.heap.size w1 g (fun i => w0.heap.size ≤ i ∧ i < w1.heap.size) (.slice none 0 0) (.slice none 0 0) (St0 r c k) :=
    ⟨hF.blk, World.ownsRow_nil _ _ _ _, World.ownsRow_nil _ _ _ _, by have := hF.low; omega, hF.inS, hF.in1, hF.in2, hF.apart, fun k e => ⟨by omega, e.2⟩⟩
  refine ⟨_, _, _, hF1.touch ht2 (fun _ _ e => e), ?_, fun e => by omega, by omega, hb.trans (below_of_false ht2 hb.size)⟩
  unfold refc left St0
  simpa using hR

set_option maxRecDepth 100000 in
set_option maxHeartbeats 16000000 in
theorem fileRuns_y {W : World} (r c k : Int) (a0 : Option Addr) (l : List ActV) (c0 : Nat) (hn : l.length ≤ 60) (hc : ok64 c)
    (hl : ∀ j x, l[j]? = some x → ∃ a : Addr, a0 = some a ∧ ∃ bv,
    W.cell? (a.add (j * 6)) = some (.int .i64 x.what) ∧ W.cell? (a.add (j * 6 + 1)) = some bv ∧ W.cell? (a.add (j * 6 + 2)) = some (.int .i64 x.n) ∧
    W.cell? (a.add (j * 6 + 3)) = some (.int .i64 x.plan.room) ∧ W.cell? (a.add (j * 6 + 4)) = some (.int .i64 x.plan.crash) ∧ W.cell? (a.add (j * 6 + 5)) = some (.int .i64 x.plan.keep) ∧
    ok64 x.n ∧ ok64 x.plan.crash ∧ ok64 x.plan.keep ∧ Reads W 1 bv x.b.length (x.b.map B8)) :
    Calls Try.prog 5 #[.agg #[.int .i64 r, .int .i64 c, .int .i64 k], .slice a0 l.length c0] W fun e w' => e = .returned (.bool true) ∧ Below W.heap.size W w' := by
  have i1 : (l.length : Int) ≤ 60 := by omega
  obtain ⟨b0, b1, b2⟩ := box_cells W r c k
  have t0 : Below W.heap.size W (W.alloc (.cells #[.int .i64 r, .int .i64 c, .int .i64 k] 27)) := below_of_false ((Stir.refl (fun _ => False) W).alloc _) (Nat.le_refl _)
  generalize h1 : W.alloc (.cells #[.int .i64 r, .int .i64 c, .int .i64 k] 27) = w0 at b0 b1 b2 t0
  go_enter Try.func5, Try.ntmps5
  go_wp2_with fail
  clear h1
  go_cut [5, 6] (fun s5 s6 wx => ∃ g h : Nat, s5 = .pointer (some ⟨g, 0, none⟩) ∧ s6 = .pointer (some ⟨h, 0, none⟩) ∧ Inv2 W g h (St0 r c k) (St0 r c k) wx)
  case first =>
    go_region_with (first
      | (go_at_call 9; refine (new_any r c k _).mono ?_; rintro e w1 ⟨g, rfl, hg, hF1, ht1⟩; have q0 := ht1.cell b0 (fun e => e); have q1 := ht1.cell b1 (fun e => e); have q2 := ht1.cell b2 (fun e => e))
      | (go_at_call 17; refine (ref_new r c k _).mono ?_; rintro e w2 ⟨h, rfl, hh, hR, ht2⟩))
    all_goals (
      go_wp2_with fail
      go_meet
      refine ⟨g, h, rfl, rfl, ?_⟩
      exact start_inv (t0.trans (below_of_false (Stir.refl (fun _ => False) w0).drew t0.size)) hF1 ht1 hh hR ht2)
  case rest =>
    obtain ⟨g, h, rfl, rfl, hI⟩ := hcut
    have HI := Lib.hid hI
    clear b0 b1 b2 t0 hI
    go_wp2_with fail
    go_loopw [7] (fun i wr => ∃ (j : Nat) (s : St), j ≤ l.length ∧ i = .int .i64 (j : Int) ∧ Inv2 W g h s s wr ∧ Bd (300 * j) s) (fun i _ => (l.length - intOf i).toNat)
    case atStart => exact ⟨0, _, by omega, rfl, HI.out, ⟨by simp [St0], by simp [St0], by simp [St0], hc.2, by omega⟩⟩
    case round =>
      obtain ⟨j, s, hj, rfl, hI, hB⟩ := hrel
      clear HI
      by_cases hjl : j < l.length
      · obtain ⟨x, hx⟩ : ∃ x, l[j]? = some x := ⟨_, List.getElem?_eq_getElem hjl⟩
        obtain ⟨a, rfl, bv, f0, f1, f2, f3, f4, f5, o1, o2, o3, hbv⟩ := hl j x hx
        have j0 : (0 : Int) ≤ (j : Int) := by omega
        have j1 : (j : Int) < (l.length : Int) := by omega
        have hb := hI.below
        have g0 := (Stir.of_below hb (fun _ => False)).cell f0 (fun e => e)
        have g1 := (Stir.of_below hb (fun _ => False)).cell f1 (fun e => e)
        rw [add_at a _ _ (by decide)] at f1 f2 f3 f4 f5 g1
        obtain ⟨ba, bc, rfl⟩ := reads_slice hbv
        by_cases hlen : (x.b.length : Int) ≤ 300
        · go_upto_block 2 with fail
          go_cut [7] (fun s7 wx => s7 = .int .i64 (j : Int) ∧ ∃ s', Inv2 W g h s' s' wx ∧ Bd (300 * j + 300) s')
          case first =>
            obtain ⟨what, b, nn, pr, pc, pk⟩ := x
            dsimp only at *
            have hId := hI.quiet ((Stir.refl (fun _ => False) wr).drew)
            have hS : ∀ w', Below W.heap.size W w' → w'.cell? ⟨(a.add (j * 6)).block, (a.add (j * 6)).off + 1, none⟩ = some (.slice ba b.length bc) ∧ Sem.run Try.prog (convert 22 9 (.slice ba b.length bc)) w' = .ok (.string ⟨b.toArray⟩) w' :=
              fun w' h => ⟨(Stir.of_below h (fun _ => False)).cell f1 (fun e => e), run_string_reads (P := Try.prog) w' 22 9 5 _ b Try.underlying22 Try.underlying5 Try.underlying9 (hbv.below h)⟩
            have hS0 := hS wr hI.below
            have hS1 := hS wr.drew hId.below
            have bl : b.length ≤ 300 := by omega
            have bl' : b.length ≤ 1000000 := by omega
            have hN : 300 * j + 300 ≤ 1000000 := by omega
            have hT : ∀ w', Below W.heap.size W w' → w'.cell? ⟨(a.add (j * 6)).block, (a.add (j * 6)).off + 2, none⟩ = some (.int .i64 nn) := fun w' h => (Stir.of_below h (fun _ => False)).cell f2 (fun e => e)
            have hP : ∀ w', Below W.heap.size W w' → w'.cell? ⟨(a.add (j * 6)).block, (a.add (j * 6)).off + 3, none⟩ = some (.int .i64 pr) ∧ w'.cell? ⟨(a.add (j * 6)).block, (a.add (j * 6)).off + 4, none⟩ = some (.int .i64 pc) ∧ w'.cell? ⟨(a.add (j * 6)).block, (a.add (j * 6)).off + 5, none⟩ = some (.int .i64 pk) :=
              fun w' h => ⟨(Stir.of_below h (fun _ => False)).cell f3 (fun e => e), (Stir.of_below h (fun _ => False)).cell f4 (fun e => e), (Stir.of_below h (fun _ => False)).cell f5 (fun e => e)⟩
            by_cases h012 : what = 0 ∨ what = 1 ∨ what = 2
            · rcases h012 with rfl | rfl | rfl
              all_goals (
                go_wp2_with fail
                go_region_held3 (fun w' => w'.cell? ⟨(a.add (j * 6)).block, (a.add (j * 6)).off + 1, none⟩ = some (.slice ba b.length bc) ∧ Sem.run Try.prog (convert 22 9 (.slice ba b.length bc)) w' = .ok (.string ⟨b.toArray⟩) w') (first | assumption | (refine ⟨?_, ?_⟩ <;> assumption))
                  (first
                    | (go_at_call 10; refine (i_add hId hB _ b hbv bl').mono ?_; rintro e w3 ⟨rfl, hI3⟩; have hS3 := hS w3 hI3.below)
                    | (go_at_call 12; refine (num_any _ _).mono ?_; rintro e w' ⟨rfl, rfl⟩)
                    | (go_at_call 18; refine (j_add hI3 hB b bl').mono ?_; rintro e w4 ⟨rfl, hI4⟩; have hS4 := hS w4 hI4.below))
                have HM := bd_add hB b bl hN
                go_wp2_with fail
                go_meet
                exact ⟨rfl, _, hI4, HM⟩)
            · by_cases h3 : what = 3
              · subst h3
                go_wp2_with (first
                    | (go_at_call 11; refine (i_sync hI hB).mono ?_; rintro e w3 ⟨rfl, hI3⟩)
                    | (go_at_call 12; refine (num_any _ _).mono ?_; rintro e w' ⟨rfl, rfl⟩)
                    | (go_at_call 19; refine (j_sync hI3 hB).mono ?_; rintro e w4 ⟨rfl, hI4⟩))
                go_meet
                exact ⟨rfl, _, hI4, bd_sync hB hN⟩
              · by_cases h4 : what = 4
                · subst h4
                  go_wp2_with fail
                  go_region_held3 (fun w' => w'.cell? ⟨(a.add (j * 6)).block, (a.add (j * 6)).off + 1, none⟩ = some (.slice ba b.length bc) ∧ Sem.run Try.prog (convert 22 9 (.slice ba b.length bc)) w' = .ok (.string ⟨b.toArray⟩) w') (first | assumption | (refine ⟨?_, ?_⟩ <;> assumption))
                    (first
                      | (go_at_call 16; refine (i_swap hId hB _ b hbv bl').mono ?_; rintro e w3 ⟨rfl, hI3⟩; have hS3 := hS w3 hI3.below)
                      | (go_at_call 12; refine (num_any _ _).mono ?_; rintro e w' ⟨rfl, rfl⟩)
                      | (go_at_call 20; refine (j_swap hI3 hB b).mono ?_; rintro e w4 ⟨rfl, hI4⟩; have hS4 := hS w4 hI4.below))
                  have HM := bd_swap hB b bl hN
                  go_wp2_with fail
                  go_meet
                  exact ⟨rfl, _, hI4, HM⟩
                · by_cases h5 : what = 5
                  · subst h5
                    have hT0 := hT wr hI.below
                    go_wp2_with (first
                        | (go_at_call 21; refine (i_tear hI nn).mono ?_; rintro e w3 ⟨rfl, hI3⟩; have hT3 := hT w3 hI3.below)
                        | (go_at_call 22; refine (j_tear hI3 nn).mono ?_; rintro e w4 ⟨rfl, hI4⟩))
                    go_meet
                    exact ⟨rfl, _, hI4, bd_tear hB nn o1.2 hN⟩
                  · by_cases h6 : what = 6
                    · subst h6
                      obtain ⟨p0, p1, p2⟩ := hP wr hI.below
                      have ok2 := o2.2
                      have ok3 := o3.2
                      go_wp2_with (first
                          | (go_at_call 14; refine (i_fall hI hB pr pc pk ok3).mono ?_; rintro e w3 ⟨rfl, hI3⟩; obtain ⟨q0, q1, q2⟩ := hP w3 hI3.below)
                          | (go_at_call 23; refine (j_fall hI3 hB pr pc pk).mono ?_; rintro e w4 ⟨rfl, hI4⟩))
                      go_meet
                      exact ⟨rfl, _, hI4, bd_fall hB pr pc pk ok2 hN⟩
                    · simp only [not_or] at h012
                      obtain ⟨n0, n1, n2⟩ := h012
                      go_wp2_with fail
                      go_meet
                      exact ⟨rfl, s, hI, bd_more hB hN⟩
          case rest =>
            obtain ⟨rfl, s', hI', hB'⟩ := hcut
            clear hI hB g0 g1 hb
            have ib := i_bytes hI' hB'
            have jb := fun w (i : Inv2 W g h s' s' w) => j_bytes i hB'
            generalize bytesS s' = q at ib jb
            obtain ⟨Y, E⟩ := q
            dsimp only at ib jb
            go_wp2_with fail
            refine ib.mono ?_
            rintro e w5 ⟨v, rfl, hv, hI5⟩
            go_wp2_with fail
            refine (jb _ hI5).mono ?_
            rintro e w6 ⟨rfl, ht6⟩
            have hI6 := hI5.quiet ht6
            have hv6 := hv.touch ht6 (fun _ _ e => e)
            have cv := fun n => run_string_reads (P := Try.prog) (w6.drewN n) 22 9 5 v Y Try.underlying22 Try.underlying5 Try.underlying9 (hv6.touch ((Stir.refl (fun _ => False) w6).drewN n) (fun _ _ e => e))
            obtain ⟨k4, k1⟩ := j_cells hI6
            obtain ⟨LL, eL⟩ : ∃ LL, (ByteArray.mk s'.loose.toArray) = LL := ⟨_, rfl⟩
            have hLL : (LL.size : Int) = (s'.loose.length : Int) := by rw [← eL, ba_size]
            rw [eL] at k1
            have hIn := fun n => hI6.quiet ((Stir.refl (fun _ => False) w6).drewN n)
            clear ib jb hv hI5 ht6 hI' hv6 eL
            go_wp2_with fail
            go_quiet (first
              | (go_at_call 12; refine Calls.quiet_of_same ((num_any _ _).mono fun e w' ⟨a, b⟩ => ⟨a, b.symm⟩))
              | (go_at_call 25; refine Calls.quiet_of_same ((i_down (hIn _)).mono fun e w' ⟨a, b⟩ => ⟨a, b.symm⟩))
              | (go_at_call 13; refine Calls.quiet_of_same ((i_loose (hIn _)).mono fun e w' ⟨a, b⟩ => ⟨a, b.symm⟩)))
            have HI := Lib.hid (hIn nq)
            clear hIn cv k4 k1 hI6
            go_wp2_with fail
            go_roundw
            case rel => exact ⟨j + 1, s', by omega, by simp, HI.out, hB'⟩
            case measure => simp [intOf]; omega
        · have hlen' : (300 : Int) < (x.b.length : Int) := by omega
          go_wp2_with (go_at_call 8; refine (awake_any _).mono ?_; rintro e w8 ⟨rfl, hb8⟩)
          go_ret
          exact ⟨rfl, hb.trans (hb8.mono hb.size)⟩
      · obtain rfl : j = l.length := by omega
        have hb := hI.below
        go_wp2_with (go_at_call 8; refine (awake_any _).mono ?_; rintro e w8 ⟨rfl, hb8⟩)
        go_ret
        exact ⟨rfl, hb.trans (hb8.mono hb.size)⟩

set_option maxRecDepth 100000 in
set_option maxHeartbeats 1000000 in
theorem fileRuns_big {W : World} (r c k : Int) (a0 : Option Addr) (n c0 : Nat) (hn : ¬ (n : Int) ≤ 60) :
    Calls Try.prog 5 #[.agg #[.int .i64 r, .int .i64 c, .int .i64 k], .slice a0 n c0] W fun e w' => e = .returned (.bool true) ∧ Below W.heap.size W w' := by
  have t0 := Lib.hid (below_of_false ((Stir.refl (fun _ => False) W).alloc (.cells #[.int .i64 r, .int .i64 c, .int .i64 k] 27)) (Nat.le_refl _))
  go_enter Try.func5, Try.ntmps5
  go_wp2_with (go_at_call 8; refine (awake_any _).mono ?_; rintro e w5 ⟨rfl, hb⟩)
  go_ret
  exact ⟨rfl, t0.out.trans (hb.mono t0.out.size)⟩

theorem fileRuns_walk {W : World} (cs : Array Value) (p : PlanV) (hp : rPlan W cs.toList p) (v : Value) (l : List ActV) (h : rSlice 6 64 rAct W [v] l) :
    Calls Try.prog 5 #[.agg cs, v] W fun e w' => e = .returned (.bool true) ∧ Below W.heap.size W w' := by
  obtain ⟨a0, c0, rfl, hl⟩ := acts_read h
  obtain ⟨hcs, _, hc, _⟩ := hp
  obtain rfl : cs = #[.int .i64 p.room, .int .i64 p.crash, .int .i64 p.keep] := by cases cs; simp_all
  clear hcs h
  by_cases hn : (l.length : Int) ≤ 60
  · exact fileRuns_y _ _ _ a0 l c0 (by omega) hc hl
  · exact fileRuns_big _ _ _ a0 _ c0 hn

end Go.Proofs.Ythllhpjjoifnmaa
