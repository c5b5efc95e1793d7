/- What Add, Sync, Swap, Tear, Fall, New, Loose, Down do to a file: contracts, each under the bounds that it names. -/
import Derived.Test.YthllhpjjoifnmaaFa
namespace Go.Proofs.Ythllhpjjoifnmaa
open Go.RowKit Go.Cav

theorem drewN_stir (w : World) (q : Nat) : Stir (fun _ => False) w (w.drewN q) := (Stir.refl _ w).drewN q

set_option maxHeartbeats 800000 in
theorem add_nil (bv : Value) (a : Option Addr) (n c : Nat) (hb : bv = .slice a n c) (w : World) : Calls Try.prog 10 #[.pointer none, bv] w fun e w' => e = .returned (.int .i64 2) ∧ w = w' := by
  subst hb
  go_enter Try.func10, Try.ntmps10
  go_wp2_with (first
    | (go_at_call 27; go_in)
    | (go_at_call 26; refine (change_nil _ _).mono ?_; rintro e w' ⟨rfl, rfl⟩))
  go_ret
  exact ⟨rfl, rfl⟩

set_option maxHeartbeats 800000 in
theorem add_down (B g : Nat) (S : Nat → Prop) (sv lv : Value) (s : St) (w : World) (hF : FileAt B w g S sv lv s) (hd : s.down = true) (hz : s.safe.length + s.loose.length ≤ 9223372036854775807)
    (a : Option Addr) (n c : Nat) : Calls Try.prog 10 #[.pointer (some ⟨g, 0, none⟩), .slice a n c] w fun e w' => e = .returned (.int .i64 8) ∧ Stir (fun _ => False) w w' := by
  obtain ⟨a1, c1, rfl⟩ := owns_slice hF.own1
  obtain ⟨a2, c2, rfl⟩ := owns_slice hF.own2
  obtain ⟨h0, h1, _, _, _, _, h6⟩ := hF.cells
  rw [hd] at h6
  go_enter Try.func10, Try.ntmps10
  go_wp2_with fail
  refine (size_any g w _ _ _ _ _ _ hz h0 h1).mono ?_
  rintro e w1 ⟨rfl, q, hw⟩
  have ht := drewN_stir w q
  rw [← hw] at ht
  have k6 := ht.cell h6 (fun e => e)
  clear hw h0 h1 h6
  go_wp2_with fail
  refine (change_down g _ w1 k6).mono ?_
  rintro e w2 ⟨rfl, rfl⟩
  go_wp2
  go_ret
  exact ⟨rfl, ht⟩

set_option maxHeartbeats 800000 in
theorem add_full (B g : Nat) (S : Nat → Prop) (sv lv : Value) (s : St) (w : World) (hF : FileAt B w g S sv lv s) (hd : s.down = false) (a : Option Addr) (n c : Nat) (hz : s.safe.length + s.loose.length + n ≤ 9223372036854775807)
    (hr : s.room < ((s.safe.length + s.loose.length + n : Nat) : Int)) : Calls Try.prog 10 #[.pointer (some ⟨g, 0, none⟩), .slice a n c] w fun e w' => e = .returned (.int .i64 7) ∧ Stir (fun _ => False) w w' := by
  obtain ⟨a1, c1, rfl⟩ := owns_slice hF.own1
  obtain ⟨a2, c2, rfl⟩ := owns_slice hF.own2
  obtain ⟨h0, h1, h2, _, _, _, h6⟩ := hF.cells
  rw [hd] at h6
  go_enter Try.func10, Try.ntmps10
  go_wp2_with fail
  refine (size_any g w _ _ _ _ _ _ (by omega) h0 h1).mono ?_
  rintro e w1 ⟨rfl, q, hw⟩
  have ht := drewN_stir w q
  rw [← hw] at ht
  have k6 := ht.cell h6 (fun e => e)
  have k2 := ht.cell h2 (fun e => e)
  clear hw h0 h1 h6 h2
  go_wp2_with fail
  refine (change_full g _ s.room w1 (by push_cast at hr; omega) k2 k6).mono ?_
  rintro e w2 ⟨rfl, rfl⟩
  go_wp2
  go_ret
  exact ⟨rfl, ht⟩

set_option maxHeartbeats 800000 in
theorem add_last (B g : Nat) (S : Nat → Prop) (sv lv : Value) (s : St) (w : World) (hF : FileAt B w g S sv lv s) (hd : s.down = false) (a : Option Addr) (n c : Nat) (hz : s.safe.length + s.loose.length + n ≤ 9223372036854775807)
    (hr : ((s.safe.length + s.loose.length + n : Nat) : Int) ≤ s.room) (hc0 : 0 ≤ s.count) (hc1 : s.count ≤ 1000000) (hne : (s.count + 1 == s.crash) = true) :
    Calls Try.prog 10 #[.pointer (some ⟨g, 0, none⟩), .slice a n c] w fun e w' => e = .returned (.int .i64 8) ∧ Step B S g w { s with count := s.count + 1, down := true } w' := by
  obtain ⟨a1, c1, rfl⟩ := owns_slice hF.own1
  obtain ⟨a2, c2, rfl⟩ := owns_slice hF.own2
  obtain ⟨h0, h1, h2, h3, _, h5, h6⟩ := hF.cells
  rw [hd] at h6
  go_enter Try.func10, Try.ntmps10
  go_wp2_with fail
  refine (size_any g w _ _ _ _ _ _ (by omega) h0 h1).mono ?_
  rintro e w1 ⟨rfl, q, hw⟩
  have ht := drewN_stir w q
  rw [← hw] at ht
  have hF1 := hF.touch ht (fun _ _ e => e)
  obtain ⟨_, _, k2, k3, _, k5, k6⟩ := hF1.cells
  rw [hd] at k6
  clear hw h0 h1 h6 h2 h3 h5
  go_wp2_with fail
  refine (change_last g _ s.room s.crash s.count w1 (by push_cast at hr; omega) k2 k3 k5 k6 (hF1.free 5) (hF1.free 6) hc0 hc1 hne).mono ?_
  rintro e w2 ⟨rfl, rfl⟩
  clear k2 k3 k5 k6 hne
  go_wp2
  go_ret
  exact ⟨rfl, step_of ht (step_counted hF1 _ _)⟩

set_option maxHeartbeats 800000 in
theorem add_up (B g : Nat) (S : Nat → Prop) (sv lv : Value) (s : St) (w : World) (hF : FileAt B w g S sv lv s) (hd : s.down = false) (bv : Value) (bs : List UInt8) (hb : ∀ W, Stir S w W → Reads W 1 bv bs.length (bs.map B8))
    (hz : s.safe.length + s.loose.length + bs.length ≤ 100000000000000)
    (hr : ((s.safe.length + s.loose.length + bs.length : Nat) : Int) ≤ s.room) (hc0 : 0 ≤ s.count) (hc1 : s.count ≤ 1000000) (hne : (s.count + 1 == s.crash) = false) :
    Calls Try.prog 10 #[.pointer (some ⟨g, 0, none⟩), bv] w fun e w' => e = .returned (.int .i64 0) ∧ Step B S g w { s with count := s.count + 1, loose := s.loose ++ bs } w' := by
  obtain ⟨i0, hi, hz0, hz1, hz2⟩ := info_parts info5
  obtain ⟨a1, c1, rfl⟩ := owns_slice hF.own1
  obtain ⟨a2, c2, rfl⟩ := owns_slice hF.own2
  obtain ⟨a, c, rfl⟩ := reads_slice (hb w (Stir.refl _ _))
  obtain ⟨h0, h1, h2, h3, _, h5, h6⟩ := hF.cells
  rw [hd] at h6
  go_enter Try.func10, Try.ntmps10
  go_wp2_with fail
  refine (size_any g w _ _ _ _ _ _ (by omega) h0 h1).mono ?_
  rintro e w1 ⟨rfl, q, hw⟩
  have ht := drewN_stir w q
  rw [← hw] at ht
  have hF1 := hF.touch ht (fun _ _ e => e)
  obtain ⟨_, _, k2, k3, _, k5, k6⟩ := hF1.cells
  rw [hd] at k6
  clear hw h0 h1 h6 h2 h3 h5
  go_wp2_with fail
  refine (change_up g _ s.room s.crash s.count w1 (by push_cast at hr; omega) k2 k3 k5 k6 (hF1.free 5) (hF1.free 6) hc0 hc1 hne).mono ?_
  rintro e w2 ⟨rfl, hw⟩
  have hF2 := (hF1.counted (s.count + 1) false).drew
  have ht2 := (counted_stir S hF1.inS (s.count + 1) false).drew (a := w1)
  rw [← hw] at hF2 ht2
  have hb2 := hb w2 ((ht.mono (fun _ _ e => e.elim)).trans ht2 (fun _ _ e => e))
  obtain ⟨_, l1, _⟩ := hF2.cells
  clear k2 k3 k5 k6 hne hw
  go_wp2_with (at_builtin; go_loud (refine wpList_append_reads rfl (.tmp 19) (.tmp 20) 22 rfl B 5 i0 (.int .u8 0) 1 1 Try.underlying22 hi hz0 hz1 hz2 rfl (by decide) _ _ _ rfl hF2.own2 _ _ _ rfl hb2 (bytes_oneCell _) (by unfold maxLen; simp; omega) (by simp; omega) (by have := hF2.from_ g hF2.inS; have := hF2.low; omega) ?_))
  intro v' w3 hown hgrow _ hat
  obtain ⟨⟨u, m1⟩, f1, hst⟩ := hF2.appended bs hown hgrow hat
  obtain ⟨a3, c3, rfl⟩ := owns_slice hown
  have HS := Lib.hid (step_of ht (Step.then_ ht2 hst))
  clear hst hown hgrow hF2 hF1 hF l1 hb hb2 ht ht2
  go_wp2
  go_ret
  exact ⟨rfl, HS.out⟩

set_option maxHeartbeats 400000 in
theorem sync_nil (w : World) : Calls Try.prog 11 #[.pointer none] w fun e w' => e = .returned (.int .i64 2) ∧ w = w' := by
  go_enter Try.func11, Try.ntmps11
  go_wp2_with (go_at_call 28; refine (asked_nil _).mono ?_; rintro e w' ⟨rfl, rfl⟩)
  go_ret
  exact ⟨rfl, rfl⟩

set_option maxHeartbeats 400000 in
theorem sync_down (g : Nat) (w : World) (h6 : w.cell? ⟨g, 6, none⟩ = some (.bool true)) : Calls Try.prog 11 #[.pointer (some ⟨g, 0, none⟩)] w fun e w' => e = .returned (.int .i64 8) ∧ w = w' := by
  go_enter Try.func11, Try.ntmps11
  go_wp2_with (go_at_call 28; refine (asked_down _ _ h6).mono ?_; rintro e w' ⟨rfl, rfl⟩)
  go_ret
  exact ⟨rfl, rfl⟩

set_option maxHeartbeats 800000 in
theorem sync_last (B g : Nat) (S : Nat → Prop) (sv lv : Value) (s : St) (w : World) (hF : FileAt B w g S sv lv s) (hd : s.down = false) (hc0 : 0 ≤ s.count) (hc1 : s.count ≤ 1000000) (hne : (s.count + 1 == s.crash) = true) :
    Calls Try.prog 11 #[.pointer (some ⟨g, 0, none⟩)] w fun e w' => e = .returned (.int .i64 8) ∧ Step B S g w { s with count := s.count + 1, down := true } w' := by
  obtain ⟨_, _, _, h3, _, h5, h6⟩ := hF.cells
  rw [hd] at h6
  have f5 := hF.free 5
  have f6 := hF.free 6
  have HS := Lib.hid (step_counted hF (s.count + 1) true)
  have hq : (counted w g (s.count + 1) true).drew.cell? ⟨g, 6, none⟩ = some (.bool true) := counted_down h6
  clear hF
  go_enter Try.func11, Try.ntmps11
  go_wp2_with (go_at_call 28; refine (asked_up _ _ h6).mono ?_; rintro e w' ⟨rfl, rfl⟩)
  go_region
  obtain ⟨w2, hw2⟩ : ∃ w2, ((w.setCell ⟨g, 5, none⟩ (.int .i64 (s.count + 1))).setCell ⟨g, 6, none⟩ (.bool true)).drew = w2 := ⟨_, rfl⟩
  rw [hw2]
  have hw3 : (counted w g (s.count + 1) true).drew = w2 := hw2
  rw [hw3] at HS hq
  clear h3 h5 h6 f5 f6 hne hw2 hw3
  go_wp2
  go_ret
  exact ⟨rfl, HS.out⟩

set_option maxHeartbeats 1600000 in
theorem sync_up (B g : Nat) (S : Nat → Prop) (sv lv : Value) (s : St) (w : World) (hF : FileAt B w g S sv lv s) (hd : s.down = false) (hz : s.safe.length + s.loose.length ≤ 100000000000000) (hc0 : 0 ≤ s.count) (hc1 : s.count ≤ 1000000) (hne : (s.count + 1 == s.crash) = false) :
    Calls Try.prog 11 #[.pointer (some ⟨g, 0, none⟩)] w fun e w' => e = .returned (.int .i64 0) ∧ Step B S g w { s with count := s.count + 1, safe := s.safe ++ s.loose, loose := [], down := false } w' := by
  obtain ⟨i0, hi, hz0, hz1, hz2⟩ := info_parts info5
  obtain ⟨a1, c1, rfl⟩ := owns_slice hF.own1
  obtain ⟨a2, c2, rfl⟩ := owns_slice hF.own2
  obtain ⟨_, _, _, h3, _, h5, h6⟩ := hF.cells
  rw [hd] at h6
  have f5 := hF.free 5
  have f6 := hF.free 6
  have hF2 := (hF.counted (s.count + 1) false).drew
  have ht2 := (counted_stir S hF.inS (s.count + 1) false).drew (a := w)
  clear hF
  go_enter Try.func11, Try.ntmps11
  go_wp2_with (go_at_call 28; refine (asked_up _ _ h6).mono ?_; rintro e w' ⟨rfl, rfl⟩)
  go_region
  obtain ⟨w2, hw2⟩ : ∃ w2, ((w.setCell ⟨g, 5, none⟩ (.int .i64 (s.count + 1))).setCell ⟨g, 6, none⟩ (.bool false)).drew = w2 := ⟨_, rfl⟩
  rw [hw2]
  have hw3 : (counted w g (s.count + 1) false).drew = w2 := hw2
  rw [hw3] at hF2 ht2
  clear h3 h5 h6 f5 f6 hne hw2 hw3
  obtain ⟨k0, k1, _, _, _, _, k6⟩ := hF2.cells
  dsimp only at k6
  have hF3 := hF2.drew
  have hsz : B ≤ w2.drew.heap.size := by have := hF2.from_ g hF2.inS; exact Nat.le_of_lt (Nat.lt_of_le_of_lt this.1 this.2)
  go_wp2
  go_region_law (go_loud (refine step_append_reads rfl (.tmp 38) (.tmp 42) 22 rfl B 5 i0 (.int .u8 0) 1 1 Try.underlying22 hi hz0 hz1 hz2 rfl (by decide) _ _ _ rfl hF3.own1 _ _ _ rfl (Reads.of_owns hF3.own2) (bytes_oneCell _) (by unfold maxLen; dsimp only; omega) (by dsimp only; omega) hsz ?_; intro v' w3 hown hgrow _ hat; obtain ⟨⟨u0, m0⟩, q0, ⟨u1, m1⟩, q1, hst⟩ := hF3.synced hown hgrow hat; obtain ⟨a3, c3, rfl⟩ := owns_slice hown; have HS := Lib.hid (Step.then_ ht2.drew hst); clear hst hown hgrow hF2 hF3 k0 k1 k6 ht2))
  all_goals go_wp2
  all_goals go_ret
  all_goals exact ⟨rfl, HS.out⟩

set_option maxHeartbeats 400000 in
theorem tear_nil (n : Int) (w : World) : Calls Try.prog 21 #[.pointer none, .int .i64 n] w fun e w' => e = .returned (.tuple #[]) ∧ w = w' := by
  go_enter Try.func21, Try.ntmps21
  go_wp2
  go_end0
  exact ⟨rfl, rfl⟩

set_option maxHeartbeats 400000 in
theorem tear_any (B g : Nat) (S : Nat → Prop) (sv lv : Value) (s : St) (n : Int) (w : World) (hF : FileAt B w g S sv lv s) :
    Calls Try.prog 21 #[.pointer (some ⟨g, 0, none⟩), .int .i64 n] w fun e w' => e = .returned (.tuple #[]) ∧ Step B S g w { s with crash := n, count := 0 } w' := by
  obtain ⟨_, _, _, h3, _, h5, _⟩ := hF.cells
  have f3 := hF.free 3
  have f5 := hF.free 5
  have HS : Hid (Step B S g w { s with crash := n, count := 0 } ((w.setCell ⟨g, 3, none⟩ (.int .i64 n)).setCell ⟨g, 5, none⟩ (.int .i64 0))) :=
    ⟨S, sv, lv, (hF.set (s' := { s with crash := n }) 3 (.int .i64 n) rfl rfl rfl).set (s' := { s with crash := n, count := 0 }) 5 (.int .i64 0) rfl rfl rfl, fun _ h => .inl h, fun _ h => h,
      ((Stir.refl S w).setCell (p := ⟨g, 3, none⟩) (fun _ => hF.inS) _).setCell (p := ⟨g, 5, none⟩) (fun _ => hF.inS) _⟩
  clear hF
  go_enter Try.func21, Try.ntmps21
  go_wp2
  go_end0
  exact ⟨rfl, HS.out⟩

set_option maxHeartbeats 400000 in
theorem down_nil (w : World) : Calls Try.prog 25 #[.pointer none] w fun e w' => e = .returned (.bool false) ∧ w = w' := by
  go_enter Try.func25, Try.ntmps25
  go_wp2
  go_ret
  exact ⟨rfl, rfl⟩

set_option maxHeartbeats 400000 in
theorem down_any (g : Nat) (d : Bool) (w : World) (h6 : w.cell? ⟨g, 6, none⟩ = some (.bool d)) : Calls Try.prog 25 #[.pointer (some ⟨g, 0, none⟩)] w fun e w' => e = .returned (.bool d) ∧ w = w' := by
  go_enter Try.func25, Try.ntmps25
  go_wp2
  go_ret
  exact ⟨rfl, rfl⟩

set_option maxHeartbeats 400000 in
theorem loose_nil (w : World) : Calls Try.prog 13 #[.pointer none] w fun e w' => e = .returned (.int .i64 0) ∧ w = w' := by
  go_enter Try.func13, Try.ntmps13
  go_wp2
  go_ret
  exact ⟨rfl, rfl⟩

set_option maxHeartbeats 400000 in
theorem loose_any (B g : Nat) (S : Nat → Prop) (sv lv : Value) (s : St) (w : World) (hF : FileAt B w g S sv lv s) : Calls Try.prog 13 #[.pointer (some ⟨g, 0, none⟩)] w fun e w' => e = .returned (.int .i64 (s.loose.length : Nat)) ∧ w = w' := by
  obtain ⟨a2, c2, rfl⟩ := owns_slice hF.own2
  obtain ⟨_, h1, _⟩ := hF.cells
  clear hF
  go_enter Try.func13, Try.ntmps13
  go_wp2
  go_ret
  exact ⟨rfl, rfl⟩

set_option maxHeartbeats 400000 in
theorem num_any (n : Int) (w : World) : Calls Try.prog 12 #[.int .i64 n] w fun e w' => e = .returned (.int .i64 n) ∧ w = w' := by
  go_enter Try.func12, Try.ntmps12
  go_wp2
  go_ret
  exact ⟨rfl, rfl⟩

set_option maxHeartbeats 400000 in
theorem new_any (r c k : Int) (w : World) : Calls Try.prog 9 #[.agg #[.int .i64 r, .int .i64 c, .int .i64 k]] w fun e w' => ∃ g, e = .returned (.pointer (some ⟨g, 0, none⟩)) ∧ w.heap.size ≤ g ∧
    FileAt w.heap.size w' g (fun i => w.heap.size ≤ i ∧ i < w'.heap.size) (.slice none 0 0) (.slice none 0 0) ⟨[], [], r, c, k, 0, false⟩ ∧ Stir (fun _ => False) w w' := by
  go_enter Try.func9, Try.ntmps9
  go_wp2
  go_ret
  refine ⟨w.heap.size + 1, rfl, by omega, ⟨?_, World.ownsRow_nil _ _ _ _, World.ownsRow_nil _ _ _ _, by omega, ⟨by omega, by simp⟩, fun k e => (by cases e), fun k e => (by cases e), fun k e => (by cases e), fun k h => h⟩, ((Stir.refl _ w).alloc _).alloc _⟩
  have := heap_alloc_new (w.alloc (.cells #[.int .i64 r, .int .i64 c, .int .i64 k] 27)) (.cells #[.slice none 0 0, .slice none 0 0, .int .i64 r, .int .i64 c, .int .i64 k, .int .i64 0, .bool false] 53)
  rw [World.size_alloc] at this
  exact this

set_option maxHeartbeats 800000 in
/-- slices.Clone of a []byte -/
theorem clone_any (bv : Value) (bs : List UInt8) (w : World) (hb : Reads w 1 bv bs.length (bs.map B8)) (hz : bs.length ≤ 100000000000000) :
    Calls Try.prog 30 #[bv] w fun e w' => ∃ v, e = .returned v ∧ w'.ownsRow w.heap.size 5 1 v bs.length (bs.map B8) ∧ Stir (fun _ => False) w w' := by
  obtain ⟨i0, hi, hz0, hz1, hz2⟩ := info_parts info5
  have hq := fun (w : World) (a : Option Addr) (n c : Nat) => Lib.run_eql_slice_nil (P := Try.prog) w 22 5 a n c 0 0 Try.underlying22
  rcases hb.2 with ⟨rfl, h0⟩ | ⟨a, c, rfl, hc⟩
  · go_enter Try.func30, Try.ntmps30
    go_wp2
    go_ret
    obtain rfl : bs = [] := List.eq_nil_of_length_eq_zero h0
    exact ⟨_, rfl, World.ownsRow_nil _ _ _ _, Stir.refl _ _⟩
  · have hb2 := hb.alloc (.cells #[] 5)
    have hown : (w.alloc (.cells #[] 5)).ownsRow w.heap.size 5 1 (.slice (some ⟨w.heap.size, 0, none⟩) 0 0) 0 [] := World.ownsRow_made w #[] 0 (Nat.le_refl _) (Nat.zero_le _) rfl
    go_enter Try.func30, Try.ntmps30
    go_wp2_with (at_builtin; go_loud (refine wpList_append_reads rfl (.tmp 5) (.tmp 6) 22 rfl w.heap.size 5 i0 (.int .u8 0) 1 1 Try.underlying22 hi hz0 hz1 hz2 rfl (by decide) _ _ _ rfl hown _ _ _ rfl hb2 (bytes_oneCell _) (by unfold maxLen; omega) (by omega) (by simp) ?_))
    intro v' w3 hown' hgrow _ hat
    clear hb hb2 hown hc
    have hS : Stir (fun _ => False) w w3 := ((Stir.refl _ w).alloc _).grown hgrow (fun k e hk => by simp [Value.ownBlock] at e; omega)
    have hown'' : w3.ownsRow w.heap.size 5 1 v' bs.length (bs.map B8) := by simpa using hown'
    clear hown' hgrow hat
    go_wp2
    go_ret
    exact ⟨_, rfl, hown'', hS⟩

end Go.Proofs.Ythllhpjjoifnmaa
