/- The law of a crash by number: its walk. No conditions. -/
import Derived.Lib.SlBytesConst
import Derived.Test.YthllhpjjoifnmaaGa
namespace Go.Proofs.Ythllhpjjoifnmaa
open Go.RowKit Go.Cav

/-- between two changes: so many have been asked for -/
def CrashInv (B g : Nat) (k : Int) (j : Nat) (w : World) : Prop :=
  ∃ S sv lv s, FileAt B w g S sv lv s ∧ s.crash = k ∧ s.room = 1000 ∧ s.safe.length + s.loose.length ≤ j ∧ ((j : Int) < k → s.down = false ∧ s.count = j) ∧ (k ≤ (j : Int) → s.down = true)

/-- what a change of a file tells and leaves, whichever it is -/
def CrashStep (B g : Nat) (k : Int) (j : Nat) (w : World) (e : Ending) (w' : World) : Prop :=
  ∃ n : Int, e = .returned (.int .i64 n) ∧ ((k ≤ ((j + 1 : Nat) : Int) ∧ n = 8) ∨ (((j + 1 : Nat) : Int) < k ∧ n = 0)) ∧ CrashInv B g k (j + 1) w' ∧ Below B w w'

theorem crash_down {B g : Nat} {k : Int} {j : Nat} {w w' : World} (h : CrashInv B g k j w) (hk : k ≤ (j : Int)) (ht : Stir (fun _ => False) w w') : CrashStep B g k j w (.returned (.int .i64 8)) w' := by
  obtain ⟨S, sv, lv, s, hF, h1, h2, h3, h4, h5⟩ := h
  have hB : B ≤ w.heap.size := by have := hF.from_ g hF.inS; omega
  exact ⟨8, rfl, .inl ⟨by omega, rfl⟩, ⟨S, sv, lv, s, hF.touch ht (fun _ _ e => e), h1, h2, by omega, fun h => by omega, fun _ => h5 hk⟩, below_of_false ht hB⟩

theorem crash_step {B g : Nat} {k : Int} {j : Nat} {w w' : World} {S : Nat → Prop} {s' : St} {n : Int} (hB : B ≤ w.heap.size) (hS : ∀ k, S k → B ≤ k) (h : Step B S g w s' w') (h1 : s'.crash = k) (h2 : s'.room = 1000) (h3 : s'.safe.length + s'.loose.length ≤ j + 1)
    (h4 : (k ≤ ((j + 1 : Nat) : Int) ∧ n = 8 ∧ s'.down = true) ∨ (((j + 1 : Nat) : Int) < k ∧ n = 0 ∧ s'.down = false ∧ s'.count = ((j + 1 : Nat) : Int))) : CrashStep B g k j w (.returned (.int .i64 n)) w' := by
  have hb := step_below h hB hS
  obtain ⟨S', sv, lv, hF, _, _, _⟩ := h
  refine ⟨n, rfl, ?_, ⟨S', sv, lv, s', hF, h1, h2, h3, ?_, ?_⟩, hb⟩
  · rcases h4 with ⟨a, b, c⟩ | ⟨a, b, c, d⟩
    · exact .inl ⟨a, b⟩
    · exact .inr ⟨a, b⟩
  · intro hlt
    rcases h4 with ⟨a, b, c⟩ | ⟨a, b, c, d⟩
    · omega
    · exact ⟨c, d⟩
  · intro hle
    rcases h4 with ⟨a, b, c⟩ | ⟨a, b, c, d⟩
    · exact c
    · omega

theorem sync_crash {B g : Nat} {k : Int} {j : Nat} (hj : j ≤ 10) (w : World) (h : CrashInv B g k j w) : Calls Try.prog 11 #[.pointer (some ⟨g, 0, none⟩)] w (CrashStep B g k j w) := by
  have h0 := h
  obtain ⟨S, sv, lv, s, hF, h1, h2, h3, h4, h5⟩ := h
  have hB : B ≤ w.heap.size := by have := hF.from_ g hF.inS; omega
  have hS : ∀ k, S k → B ≤ k := fun k e => (hF.from_ k e).1
  by_cases hk : k ≤ (j : Int)
  · have h6 := hF.cells.2.2.2.2.2.2
    rw [h5 hk] at h6
    exact (sync_down g w h6).mono fun e w' ⟨he, hw⟩ => by subst he; subst hw; exact crash_down h0 hk (Stir.refl _ _)
  · obtain ⟨hd, hc⟩ := h4 (by omega)
    by_cases hne : (s.count + 1 == s.crash) = true
    · refine (sync_last B g S sv lv s w hF hd (by omega) (by omega) hne).mono fun e w' ⟨he, hs⟩ => ?_
      subst he
      have := beq_iff_eq.1 hne
      exact crash_step hB hS hs h1 h2 (by simp; omega) (.inl ⟨by omega, rfl, rfl⟩)
    · have hne' : (s.count + 1 == s.crash) = false := by simpa using hne
      refine (sync_up B g S sv lv s w hF hd (by omega) (by omega) (by omega) hne').mono fun e w' ⟨he, hs⟩ => ?_
      subst he
      have := beq_eq_false_iff_ne.1 hne'
      exact crash_step hB hS hs h1 h2 (by simp; omega) (.inr ⟨by omega, rfl, rfl, by simp; omega⟩)

theorem swap_crash {B g : Nat} {k : Int} {j : Nat} (hj : j ≤ 10) (w : World) (h : CrashInv B g k j w) : Calls Try.prog 16 #[.pointer (some ⟨g, 0, none⟩), .slice (some ⟨w.heap.size, 0, none⟩) 1 1] (w.alloc (.cells #[.int .u8 122] 5 (1, 2))) (CrashStep B g k j w) := by
  have h0 := h
  obtain ⟨S, sv, lv, s, hF, h1, h2, h3, h4, h5⟩ := h
  have hB : B ≤ w.heap.size := by have := hF.from_ g hF.inS; omega
  have hS : ∀ k, S k → B ≤ k := fun k e => (hF.from_ k e).1
  have ht := (Stir.refl (fun _ => False) w).alloc (.cells #[.int .u8 122] 5 (1, 2))
  have hF1 := hF.touch ht (fun _ _ e => e)
  by_cases hk : k ≤ (j : Int)
  · have h6 := hF1.cells.2.2.2.2.2.2
    rw [h5 hk] at h6
    exact (swap_down g _ h6 _ _ _).mono fun e w' ⟨he, hw⟩ => by subst he; subst hw; exact crash_down h0 hk ht
  · obtain ⟨hd, hc⟩ := h4 (by omega)
    by_cases hne : (s.count + 1 == s.crash) = true
    · refine (swap_last B g S sv lv s _ hF1 hd _ 1 1 (by omega) (by omega) (by omega) hne).mono fun e w' ⟨he, hs⟩ => ?_
      subst he
      have := beq_iff_eq.1 hne
      exact crash_step hB hS (step_of ht hs) h1 h2 (by simp; omega) (.inl ⟨by omega, rfl, rfl⟩)
    · have hne' : (s.count + 1 == s.crash) = false := by simpa using hne
      refine (swap_up B g S sv lv s _ hF1 hd _ [122] (lit_reads [.int .u8 122] 5 (fun k e => (hF.from_ k e).2) 1 1 rfl (1, 2)) (by simp) (by simp; omega) (by omega) (by omega) hne').mono fun e w' ⟨he, hs⟩ => ?_
      subst he
      have := beq_eq_false_iff_ne.1 hne'
      exact crash_step hB hS (step_of ht hs) h1 h2 (by simp) (.inr ⟨by omega, rfl, rfl, by simp; omega⟩)

theorem add_crash {B g : Nat} {k : Int} {j : Nat} (hj : j ≤ 10) (w : World) (h : CrashInv B g k j w) : Calls Try.prog 10 #[.pointer (some ⟨g, 0, none⟩), .slice (some ⟨w.heap.size, 0, none⟩) 1 1] (w.alloc (.cells #[.int .u8 121] 5)) (CrashStep B g k j w) := by
  have h0 := h
  obtain ⟨S, sv, lv, s, hF, h1, h2, h3, h4, h5⟩ := h
  have hB : B ≤ w.heap.size := by have := hF.from_ g hF.inS; omega
  have hS : ∀ k, S k → B ≤ k := fun k e => (hF.from_ k e).1
  have ht := (Stir.refl (fun _ => False) w).alloc (.cells #[.int .u8 121] 5)
  have hF1 := hF.touch ht (fun _ _ e => e)
  by_cases hk : k ≤ (j : Int)
  · exact (add_down B g S sv lv s _ hF1 (h5 hk) (by omega) _ _ _).mono fun e w' ⟨he, hw⟩ => by subst he; exact crash_down h0 hk (ht.trans hw (fun _ _ e => e))
  · obtain ⟨hd, hc⟩ := h4 (by omega)
    by_cases hne : (s.count + 1 == s.crash) = true
    · refine (add_last B g S sv lv s _ hF1 hd _ 1 1 (by omega) (by push_cast; omega) (by omega) (by omega) hne).mono fun e w' ⟨he, hs⟩ => ?_
      subst he
      have := beq_iff_eq.1 hne
      exact crash_step hB hS (step_of ht hs) h1 h2 (by simp; omega) (.inl ⟨by omega, rfl, rfl⟩)
    · have hne' : (s.count + 1 == s.crash) = false := by simpa using hne
      refine (add_up B g S sv lv s _ hF1 hd _ [121] (lit_reads [.int .u8 121] 5 (fun k e => (hF.from_ k e).2) 1 1 rfl) (by simp; omega) (by simp; omega) (by omega) (by omega) hne').mono fun e w' ⟨he, hs⟩ => ?_
      subst he
      have := beq_eq_false_iff_ne.1 hne'
      exact crash_step hB hS (step_of ht hs) h1 h2 (by simp; omega) (.inr ⟨by omega, rfl, by simpa using hd, by simp; omega⟩)

set_option maxRecDepth 100000 in
set_option maxHeartbeats 4000000 in
theorem fileCrash_walk {W : World} (x : Int) (wx : (Lit.int .u8 x).wf = true) (y : Int) (wy : (Lit.int .u8 y).wf = true) (z : Int) (wz : (Lit.int .u8 z).wf = true) :
    Calls Try.prog 6 #[.int .u8 x, .int .u8 y, .int .u8 z] W fun e w' => e = .returned (.bool true) ∧ Below W.heap.size W w' := by
  obtain ⟨x0, x1⟩ := wf_u8 wx
  obtain ⟨y0, y1⟩ := wf_u8 wy
  obtain ⟨z0, z1⟩ := wf_u8 wz
  clear wx wy wz
  obtain ⟨k1, hk1⟩ : ∃ k : Int, 1 + x % 10 = k := ⟨_, rfl⟩
  obtain ⟨k2, hk2⟩ : ∃ k : Int, 1 + y % 10 = k := ⟨_, rfl⟩
  have b1 : 1 ≤ k1 ∧ k1 ≤ 10 := by omega
  have b2 : 1 ≤ k2 ∧ k2 ≤ 10 := by omega
  obtain ⟨b1, b1'⟩ := b1
  obtain ⟨b2, b2'⟩ := b2
  have HK1 := Lib.hid hk1
  have HK2 := Lib.hid hk2
  clear hk1 hk2
  by_cases hy : 127 < y
  · go_enter Try.func6, Try.ntmps6
    go_wp2_with fail
    rw [HK1.out]
    refine (new_any 1000 k1 0 W).mono ?_
    rintro e w1 ⟨g, rfl, hg, hF1, ht1⟩
    go_wp2_with fail
    rw [HK2.out]
    refine (tear_any _ g _ _ _ _ k2 w1 hF1).mono ?_
    rintro e w2 ⟨rfl, hs2⟩
    have HB := Lib.hid ((below_of_false ht1 (Nat.le_refl _)).trans (step_below hs2 ht1.size (fun k h => h.1)))
    have HI : Hid (CrashInv W.heap.size g k2 0 w2) := by
      obtain ⟨S, sv, lv, hF, _, _, _⟩ := hs2
      exact ⟨S, sv, lv, _, hF, rfl, rfl, by simp, fun _ => ⟨rfl, rfl⟩, fun h => by simp at h; omega⟩
    clear hs2 hF1 ht1 hg
    go_wp2_with fail
    go_loopw [9] (fun i wr => ∃ j : Nat, j ≤ 10 ∧ i = .int .i64 ((j : Int) + 1) ∧ CrashInv W.heap.size g k2 j wr ∧ Below W.heap.size W wr) (fun i _ => (11 - intOf i).toNat)
    case atStart => exact ⟨0, by omega, rfl, HI.out, HB.out⟩
    case round =>
      obtain ⟨j, hj, rfl, hI, hB⟩ := hrel
      clear HI HB
      by_cases hlt : j < 10
      · by_cases hs : ((j : Int) + 1 == 1 + z % 10) = true
        · have C := sync_crash (B := W.heap.size) (by omega) wr hI
          go_wp2_with fail
          refine C.mono ?_
          rintro e w3 ⟨n, rfl, hn, hI', hB'⟩
          have HI := Lib.hid hI'
          have HB := Lib.hid (hB.trans hB')
          clear hI' hB' hI hB C hs
          rcases hn with ⟨a, rfl⟩ | ⟨a, rfl⟩
          all_goals
            push_cast at a
            go_wp2_with (go_at_call 12; refine (num_any _ _).mono ?_; rintro e w' ⟨rfl, rfl⟩)
            go_roundw
            case rel => exact ⟨j + 1, by omega, by simp, HI.out, HB.out⟩
            case measure => simp [intOf]; omega
        · have hs' : ((j : Int) + 1 == 1 + z % 10) = false := by simpa using hs
          clear hs
          by_cases ht : ((j : Int) + 1 == 1 + z / 16 % 10) = true
          · have kc := fun (w : World) (C : Array Value) (n c : Nat) => Lib.run_convert_bytes_const (P := Try.prog) w 22 5 C n c Try.underlying22 Try.underlying5
            have C := swap_crash (B := W.heap.size) (by omega) wr hI
            go_wp2_with fail
            refine C.mono ?_
            rintro e w3 ⟨n, rfl, hn, hI', hB'⟩
            have HI := Lib.hid hI'
            have HB := Lib.hid (hB.trans hB')
            clear hI' hB' hI hB C hs' ht
            rcases hn with ⟨a, rfl⟩ | ⟨a, rfl⟩
            all_goals
              push_cast at a
              go_wp2_with (go_at_call 12; refine (num_any _ _).mono ?_; rintro e w' ⟨rfl, rfl⟩)
              go_roundw
              case rel => exact ⟨j + 1, by omega, by simp, HI.out, HB.out⟩
              case measure => simp [intOf]; omega
          · have ht' : ((j : Int) + 1 == 1 + z / 16 % 10) = false := by simpa using ht
            clear ht
            have C := add_crash (B := W.heap.size) (by omega) wr hI
            go_wp2_with fail
            refine C.mono ?_
            rintro e w3 ⟨n, rfl, hn, hI', hB'⟩
            have HI := Lib.hid hI'
            have HB := Lib.hid (hB.trans hB')
            clear hI' hB' hI hB C hs' ht'
            rcases hn with ⟨a, rfl⟩ | ⟨a, rfl⟩
            all_goals
              push_cast at a
              go_wp2_with (go_at_call 12; refine (num_any _ _).mono ?_; rintro e w' ⟨rfl, rfl⟩)
              go_roundw
              case rel => exact ⟨j + 1, by omega, by simp, HI.out, HB.out⟩
              case measure => simp [intOf]; omega
      · obtain rfl : j = 10 := by omega
        obtain ⟨S, sv, lv, s, hF, h1, h2, h3, h4, h5⟩ := hI
        have hd := h5 (by omega)
        have h6 := hF.cells.2.2.2.2.2.2
        rw [hd] at h6
        have hz : s.safe.length + s.loose.length ≤ 100000000000000 := by omega
        have hS : ∀ k, S k → W.heap.size ≤ k := fun k e => (hF.from_ k e).1
        clear h1 h2 h4 h5 hd
        go_wp2_with fail
        refine (bytes_down g wr h6).mono ?_
        rintro e w3 ⟨rfl, rfl⟩
        clear h6
        go_wp2_with fail
        refine (fall_any _ g S sv lv s 1000 0 0 wr hF hz (by omega)).mono ?_
        rintro e w3 ⟨rfl, hs3⟩
        have hB3 := hB.trans (step_below hs3 hB.size hS)
        obtain ⟨S3, sv3, lv3, hF3, _, _, _⟩ := hs3
        go_wp2_with fail
        refine (bytes_up _ g S3 sv3 lv3 _ w3 hF3 rfl (by simp [kept]; omega)).mono ?_
        rintro e w4 ⟨v, rfl, _, ht4⟩
        have hF4 := hF3.touch ht4 (fun _ _ e => e)
        have h6 := hF4.cells.2.2.2.2.2.2
        have HB := Lib.hid (hB3.trans (below_of_false ht4 hB3.size))
        dsimp only at h6
        clear hF hF3 hF4 hB hB3 ht4 hS hz h3
        go_wp2_with (first
          | (go_at_call 12; refine (num_any _ _).mono ?_; rintro e w' ⟨rfl, rfl⟩)
          | (go_at_call 25; refine (down_any g false _ h6).mono ?_; rintro e w' ⟨rfl, rfl⟩)
          | (go_at_call 8; refine (awake_any _).mono ?_; rintro e w5 ⟨rfl, hb⟩; have HC := Lib.hid (HB.out.trans (hb.mono HB.out.size)); clear hb))
        go_ret
        exact ⟨rfl, HC.out⟩
  · go_enter Try.func6, Try.ntmps6
    go_wp2_with fail
    rw [HK1.out]
    refine (new_any 1000 k1 0 W).mono ?_
    rintro e w2 ⟨g, rfl, hg, hF1, ht1⟩
    have HB := Lib.hid (below_of_false ht1 (Nat.le_refl _))
    have HI : Hid (CrashInv W.heap.size g k1 0 w2) := ⟨_, _, _, _, hF1, rfl, rfl, by simp, fun _ => ⟨rfl, rfl⟩, fun h => by simp at h; omega⟩
    clear hF1 ht1 hg
    go_wp2_with fail
    go_loopw [9] (fun i wr => ∃ j : Nat, j ≤ 10 ∧ i = .int .i64 ((j : Int) + 1) ∧ CrashInv W.heap.size g k1 j wr ∧ Below W.heap.size W wr) (fun i _ => (11 - intOf i).toNat)
    case atStart => exact ⟨0, by omega, rfl, HI.out, HB.out⟩
    case round =>
      obtain ⟨j, hj, rfl, hI, hB⟩ := hrel
      clear HI HB
      by_cases hlt : j < 10
      · by_cases hs : ((j : Int) + 1 == 1 + z % 10) = true
        · have C := sync_crash (B := W.heap.size) (by omega) wr hI
          go_wp2_with fail
          refine C.mono ?_
          rintro e w3 ⟨n, rfl, hn, hI', hB'⟩
          have HI := Lib.hid hI'
          have HB := Lib.hid (hB.trans hB')
          clear hI' hB' hI hB C hs
          rcases hn with ⟨a, rfl⟩ | ⟨a, rfl⟩
          all_goals
            push_cast at a
            go_wp2_with (go_at_call 12; refine (num_any _ _).mono ?_; rintro e w' ⟨rfl, rfl⟩)
            go_roundw
            case rel => exact ⟨j + 1, by omega, by simp, HI.out, HB.out⟩
            case measure => simp [intOf]; omega
        · have hs' : ((j : Int) + 1 == 1 + z % 10) = false := by simpa using hs
          clear hs
          by_cases ht : ((j : Int) + 1 == 1 + z / 16 % 10) = true
          · have kc := fun (w : World) (C : Array Value) (n c : Nat) => Lib.run_convert_bytes_const (P := Try.prog) w 22 5 C n c Try.underlying22 Try.underlying5
            have C := swap_crash (B := W.heap.size) (by omega) wr hI
            go_wp2_with fail
            refine C.mono ?_
            rintro e w3 ⟨n, rfl, hn, hI', hB'⟩
            have HI := Lib.hid hI'
            have HB := Lib.hid (hB.trans hB')
            clear hI' hB' hI hB C hs' ht
            rcases hn with ⟨a, rfl⟩ | ⟨a, rfl⟩
            all_goals
              push_cast at a
              go_wp2_with (go_at_call 12; refine (num_any _ _).mono ?_; rintro e w' ⟨rfl, rfl⟩)
              go_roundw
              case rel => exact ⟨j + 1, by omega, by simp, HI.out, HB.out⟩
              case measure => simp [intOf]; omega
          · have ht' : ((j : Int) + 1 == 1 + z / 16 % 10) = false := by simpa using ht
            clear ht
            have C := add_crash (B := W.heap.size) (by omega) wr hI
            go_wp2_with fail
            refine C.mono ?_
            rintro e w3 ⟨n, rfl, hn, hI', hB'⟩
            have HI := Lib.hid hI'
            have HB := Lib.hid (hB.trans hB')
            clear hI' hB' hI hB C hs' ht'
            rcases hn with ⟨a, rfl⟩ | ⟨a, rfl⟩
            all_goals
              push_cast at a
              go_wp2_with (go_at_call 12; refine (num_any _ _).mono ?_; rintro e w' ⟨rfl, rfl⟩)
              go_roundw
              case rel => exact ⟨j + 1, by omega, by simp, HI.out, HB.out⟩
              case measure => simp [intOf]; omega
      · obtain rfl : j = 10 := by omega
        obtain ⟨S, sv, lv, s, hF, h1, h2, h3, h4, h5⟩ := hI
        have hd := h5 (by omega)
        have h6 := hF.cells.2.2.2.2.2.2
        rw [hd] at h6
        have hz : s.safe.length + s.loose.length ≤ 100000000000000 := by omega
        have hS : ∀ k, S k → W.heap.size ≤ k := fun k e => (hF.from_ k e).1
        clear h1 h2 h4 h5 hd
        go_wp2_with fail
        refine (bytes_down g wr h6).mono ?_
        rintro e w3 ⟨rfl, rfl⟩
        clear h6
        go_wp2_with fail
        refine (fall_any _ g S sv lv s 1000 0 0 wr hF hz (by omega)).mono ?_
        rintro e w3 ⟨rfl, hs3⟩
        have hB3 := hB.trans (step_below hs3 hB.size hS)
        obtain ⟨S3, sv3, lv3, hF3, _, _, _⟩ := hs3
        go_wp2_with fail
        refine (bytes_up _ g S3 sv3 lv3 _ w3 hF3 rfl (by simp [kept]; omega)).mono ?_
        rintro e w4 ⟨v, rfl, _, ht4⟩
        have hF4 := hF3.touch ht4 (fun _ _ e => e)
        have h6 := hF4.cells.2.2.2.2.2.2
        have HB := Lib.hid (hB3.trans (below_of_false ht4 hB3.size))
        dsimp only at h6
        clear hF hF3 hF4 hB hB3 ht4 hS hz h3
        go_wp2_with (first
          | (go_at_call 12; refine (num_any _ _).mono ?_; rintro e w' ⟨rfl, rfl⟩)
          | (go_at_call 25; refine (down_any g false _ h6).mono ?_; rintro e w' ⟨rfl, rfl⟩)
          | (go_at_call 8; refine (awake_any _).mono ?_; rintro e w5 ⟨rfl, hb⟩; have HC := Lib.hid (HB.out.trans (hb.mono HB.out.size)); clear hb))
        go_ret
        exact ⟨rfl, HC.out⟩

end Go.Proofs.Ythllhpjjoifnmaa
