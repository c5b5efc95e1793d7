/- What Swap and Fall do to a file: contracts, each under the bounds that it names. -/
import Derived.Test.YthllhpjjoifnmaaFb
namespace Go.Proofs.Ythllhpjjoifnmaa
open Go.RowKit Go.Cav

set_option maxHeartbeats 800000 in
theorem swap_nil (a : Option Addr) (n c : Nat) (w : World) : Calls Try.prog 16 #[.pointer none, .slice a n c] w fun e w' => e = .returned (.int .i64 2) ∧ w = w' := by
  go_enter Try.func16, Try.ntmps16
  go_wp2_with (go_at_call 26; refine (change_nil _ _).mono ?_; rintro e w' ⟨rfl, rfl⟩)
  go_ret
  exact ⟨rfl, rfl⟩

set_option maxHeartbeats 800000 in
theorem swap_down (g : Nat) (w : World) (h6 : w.cell? ⟨g, 6, none⟩ = some (.bool true)) (a : Option Addr) (n c : Nat) : Calls Try.prog 16 #[.pointer (some ⟨g, 0, none⟩), .slice a n c] w fun e w' => e = .returned (.int .i64 8) ∧ w = w' := by
  go_enter Try.func16, Try.ntmps16
  go_wp2_with (go_at_call 26; refine (change_down _ _ _ h6).mono ?_; rintro e w' ⟨rfl, rfl⟩)
  go_ret
  exact ⟨rfl, rfl⟩

set_option maxHeartbeats 800000 in
theorem swap_full (g : Nat) (room : Int) (w : World) (h2 : w.cell? ⟨g, 2, none⟩ = some (.int .i64 room)) (h6 : w.cell? ⟨g, 6, none⟩ = some (.bool false)) (a : Option Addr) (n c : Nat) (hr : room < (n : Int)) : Calls Try.prog 16 #[.pointer (some ⟨g, 0, none⟩), .slice a n c] w fun e w' => e = .returned (.int .i64 7) ∧ w = w' := by
  go_enter Try.func16, Try.ntmps16
  go_wp2_with (go_at_call 26; refine (change_full _ _ room _ hr h2 h6).mono ?_; rintro e w' ⟨rfl, rfl⟩)
  go_ret
  exact ⟨rfl, rfl⟩

set_option maxHeartbeats 800000 in
theorem swap_last (B g : Nat) (S : Nat → Prop) (sv lv : Value) (s : St) (w : World) (hF : FileAt B w g S sv lv s) (hd : s.down = false) (a : Option Addr) (n c : Nat) (hr : (n : Int) ≤ s.room) (hc0 : 0 ≤ s.count) (hc1 : s.count ≤ 1000000) (hne : (s.count + 1 == s.crash) = true) :
    Calls Try.prog 16 #[.pointer (some ⟨g, 0, none⟩), .slice a n c] w fun e w' => e = .returned (.int .i64 8) ∧ Step B S g w { s with count := s.count + 1, down := true } w' := by
  obtain ⟨_, _, k2, k3, _, k5, k6⟩ := hF.cells
  rw [hd] at k6
  go_enter Try.func16, Try.ntmps16
  go_wp2_with fail
  refine (change_last g _ s.room s.crash s.count w hr k2 k3 k5 k6 (hF.free 5) (hF.free 6) hc0 hc1 hne).mono ?_
  rintro e w2 ⟨rfl, rfl⟩
  clear k2 k3 k5 k6 hne
  go_wp2
  go_ret
  exact ⟨rfl, step_counted hF _ _⟩

set_option maxHeartbeats 800000 in
theorem swap_up (B g : Nat) (S : Nat → Prop) (sv lv : Value) (s : St) (w : World) (hF : FileAt B w g S sv lv s) (hd : s.down = false) (bv : Value) (bs : List UInt8) (hb : ∀ W, Stir S w W → Reads W 1 bv bs.length (bs.map B8))
    (hz : bs.length ≤ 100000000000000) (hr : (bs.length : Int) ≤ s.room) (hc0 : 0 ≤ s.count) (hc1 : s.count ≤ 1000000) (hne : (s.count + 1 == s.crash) = false) :
    Calls Try.prog 16 #[.pointer (some ⟨g, 0, none⟩), bv] w fun e w' => e = .returned (.int .i64 0) ∧ Step B S g w { s with count := s.count + 1, safe := bs, loose := [], down := false } w' := by
  obtain ⟨a, c, rfl⟩ := reads_slice (hb w (Stir.refl _ _))
  obtain ⟨_, _, k2, k3, _, k5, k6⟩ := hF.cells
  rw [hd] at k6
  go_enter Try.func16, Try.ntmps16
  go_wp2_with fail
  refine (change_up g _ s.room s.crash s.count w hr k2 k3 k5 k6 (hF.free 5) (hF.free 6) hc0 hc1 hne).mono ?_
  rintro e w2 ⟨rfl, hw⟩
  have hF2 := (hF.counted (s.count + 1) false).drew
  have ht2 := (counted_stir S hF.inS (s.count + 1) false).drew (a := w)
  rw [← hw] at hF2 ht2
  have hb2 := hb w2 ht2
  clear k2 k3 k5 k6 hne hw
  go_wp2_with fail
  refine (clone_any _ bs w2 hb2 hz).mono ?_
  rintro e w3 ⟨v, rfl, hown, ht3⟩
  have hF3 := hF2.touch ht3 (fun _ _ e => e)
  obtain ⟨a3, c3, rfl⟩ := owns_slice hown
  have hB : B ≤ w2.heap.size := by have := hF2.from_ g hF2.inS; omega
  obtain ⟨S4, hF4, q1, q2, q3⟩ := hF3.swapped bs hown (fun k e h => by have := (hown.lt k e).1; have := (hF2.from_ k h).2; omega) hB
  have HS : Hid (Step B S g w { s with count := s.count + 1, safe := bs, loose := [], down := false } ((w3.setCell ⟨g, 0, none⟩ (.slice a3 bs.length c3)).setCell ⟨g, 1, none⟩ (.slice none 0 0))) :=
    Step.then_ ht2 ⟨S4, _, _, hF4, fun k hk => (q1 k hk).imp id (fun e => (hown.lt k e).1), q2, (ht3.mono (fun _ _ e => e.elim)).trans q3 (fun _ _ e => e)⟩
  clear hF4 q1 q2 q3
  obtain ⟨k0, k1, _⟩ := hF3.cells
  have f0 := hF3.free 0
  have f1 := hF3.free 1
  clear hF hF2 hF3 ht2 ht3 hown hb hb2
  go_wp2
  go_ret
  exact ⟨rfl, HS.out⟩

set_option maxHeartbeats 400000 in
theorem fall_nil (r c k : Int) (w : World) : Calls Try.prog 14 #[.pointer none, .agg #[.int .i64 r, .int .i64 c, .int .i64 k]] w fun e w' => e = .returned (.tuple #[]) ∧ Stir (fun _ => False) w w' := by
  go_enter Try.func14, Try.ntmps14
  go_wp2
  refine bodyPost_ret (results_none rfl _ _ _) rfl ?_
  exact ⟨rfl, (Stir.refl _ w).alloc _⟩

theorem owns_cap {w : World} {base : Nat} {e : TypeId} {size : Nat} {a : Option Addr} {c n : Nat} {xs : List Value} (h : w.ownsRow base e size (.slice a n c) n xs) : n ≤ c := by
  rcases h.2 with ⟨e, rfl⟩ | ⟨g, cap, cur, e, _, _, hle, _⟩
  · exact Nat.zero_le _
  · cases e; exact hle

/-- how many of so many loose bytes a fall keeps -/
def kept (n : Nat) (k : Int) : Nat := if k ≤ 0 then 0 else (k % (n + 1)).toNat

/-- what is known of the file behind the append of a fall, and the file behind its store -/
theorem FileAt.fallen {B : Nat} {w w3 : World} {g : Nat} {S : Nat → Prop} {sv lv v' : Value} {s : St} (h : FileAt B w g S sv lv s) (bs : List UInt8) (r c k : Int) (ho : w3.ownsRow B 5 1 v' (s.safe.length + bs.length) (s.safe.map B8 ++ bs.map B8))
    (hg : w.grownBy w3 sv.ownBlock) (hat : v'.ownBlock = sv.ownBlock ∨ v'.ownBlock = some w.heap.size) :
    w3.heap[g]? = some (.cells (cellsOf sv lv s) 53 (0, 0)) ∧
    Step B S g w ⟨s.safe ++ bs, [], r, c, k, 0, false⟩ (((((((w3.setCell ⟨g, 0, none⟩ v').setCell ⟨g, 1, none⟩ (.slice none 0 0)).setCell ⟨g, 2, none⟩ (.int .i64 r)).setCell ⟨g, 3, none⟩ (.int .i64 c)).setCell ⟨g, 4, none⟩ (.int .i64 k)).setCell ⟨g, 5, none⟩ (.int .i64 0)).setCell ⟨g, 6, none⟩ (.bool false)) := by
  obtain ⟨hblk, S', hF, h1, h2, h3⟩ := h.appendedSafe bs ho hg hat
  have e1 := hF.setLoose (.slice none 0 0) [] (World.ownsRow_nil _ _ _ _) (fun k e => by cases e) (fun k _ e => by cases e)
  have e2 := e1.set (s' := { s with safe := s.safe ++ bs, loose := [], room := r }) 2 (.int .i64 r) rfl rfl rfl
  have e3 := e2.set (s' := { s with safe := s.safe ++ bs, loose := [], room := r, crash := c }) 3 (.int .i64 c) rfl rfl rfl
  have e4 := e3.set (s' := { s with safe := s.safe ++ bs, loose := [], room := r, crash := c, keep := k }) 4 (.int .i64 k) rfl rfl rfl
  have e5 := e4.set (s' := { s with safe := s.safe ++ bs, loose := [], room := r, crash := c, keep := k, count := 0 }) 5 (.int .i64 0) rfl rfl rfl
  have e6 := e5.set (s' := ⟨s.safe ++ bs, [], r, c, k, 0, false⟩) 6 (.bool false) rfl rfl rfl
  exact ⟨hblk, S', _, _, e6, h1, h2, (((((h3.setCell (p := ⟨g, 1, none⟩) (fun _ => h.inS) _).setCell (p := ⟨g, 2, none⟩) (fun _ => h.inS) _).setCell (p := ⟨g, 3, none⟩) (fun _ => h.inS) _).setCell (p := ⟨g, 4, none⟩) (fun _ => h.inS) _).setCell (p := ⟨g, 5, none⟩) (fun _ => h.inS) _).setCell (p := ⟨g, 6, none⟩) (fun _ => h.inS) _⟩

theorem file_facts {w3 : World} {g : Nat} {sv lv : Value} {s : St} (h : w3.heap[g]? = some (.cells (cellsOf sv lv s) 53 (0, 0))) :
    (w3.cell? ⟨g, 0, none⟩ = some sv ∧ w3.cell? ⟨g, 1, none⟩ = some lv ∧ w3.cell? ⟨g, 2, none⟩ = some (.int .i64 s.room) ∧ w3.cell? ⟨g, 3, none⟩ = some (.int .i64 s.crash) ∧ w3.cell? ⟨g, 4, none⟩ = some (.int .i64 s.keep) ∧ w3.cell? ⟨g, 5, none⟩ = some (.int .i64 s.count) ∧ w3.cell? ⟨g, 6, none⟩ = some (.bool s.down)) ∧
    (w3.frozen? ⟨g, 0, none⟩ = false ∧ w3.frozen? ⟨g, 1, none⟩ = false ∧ w3.frozen? ⟨g, 2, none⟩ = false ∧ w3.frozen? ⟨g, 3, none⟩ = false ∧ w3.frozen? ⟨g, 4, none⟩ = false ∧ w3.frozen? ⟨g, 5, none⟩ = false ∧ w3.frozen? ⟨g, 6, none⟩ = false) := by
  refine ⟨⟨?_, ?_, ?_, ?_, ?_, ?_, ?_⟩, ?_, ?_, ?_, ?_, ?_, ?_, ?_⟩ <;> simp [World.cell?, World.frozen?, h, cellsOf]

set_option maxHeartbeats 1600000 in
theorem fall_zero (B g : Nat) (S : Nat → Prop) (sv lv : Value) (s : St) (r c k : Int) (w : World) (hF : FileAt B w g S sv lv s) (hz : s.safe.length + s.loose.length ≤ 100000000000000) (hk : k ≤ 0) :
    Calls Try.prog 14 #[.pointer (some ⟨g, 0, none⟩), .agg #[.int .i64 r, .int .i64 c, .int .i64 k]] w fun e w' => e = .returned (.tuple #[]) ∧ Step B S g w ⟨s.safe ++ [], [], r, c, k, 0, false⟩ w' := by
  obtain ⟨i0, hi, hz0, hz1, hz2⟩ := info_parts info5
  obtain ⟨a1, c1, rfl⟩ := owns_slice hF.own1
  obtain ⟨a2, c2, rfl⟩ := owns_slice hF.own2
  have ht1 := (Stir.refl (fun _ => False) w).alloc (.cells #[.int .i64 r, .int .i64 c, .int .i64 k] 27)
  have hF1 := hF.touch ht1 (fun _ _ e => e)
  obtain ⟨h0, h1, _⟩ := hF1.cells
  go_enter Try.func14, Try.ntmps14
  go_wp2
  go_quiet (fail)
  go_wp2
  clear h0 h1
  obtain ⟨w2, hw2⟩ : ∃ w2, ((w.alloc (.cells #[.int .i64 r, .int .i64 c, .int .i64 k] 27)).drewN nq) = w2 := ⟨_, rfl⟩
  rw [hw2]
  have hbk : w2.heap[w.heap.size]? = some (.cells #[.int .i64 r, .int .i64 c, .int .i64 k] 27 (0, 0)) := by rw [← hw2, World.heap_drewN]; exact heap_alloc_new _ _
  have ht2 : Stir (fun _ => False) w w2.drew := by rw [← hw2]; exact (ht1.drewN nq).drew
  have hF2 : FileAt B w2.drew g S _ _ s := hF.touch ht2 (fun _ _ e => e)
  have hsz : B ≤ w2.drew.heap.size := by have := hF2.from_ g hF2.inS; omega
  have hlt : w.heap.size < w2.drew.heap.size := (Array.getElem?_eq_some_iff.1 hbk).1
  have p0 : w2.cell? ⟨w.heap.size, 0, none⟩ = some (.int .i64 r) := by simp [World.cell?, hbk]
  have p1 : w2.cell? ⟨w.heap.size, 1, none⟩ = some (.int .i64 c) := by simp [World.cell?, hbk]
  have p2 : w2.cell? ⟨w.heap.size, 2, none⟩ = some (.int .i64 k) := by simp [World.cell?, hbk]
  have hnb : some w.heap.size ≠ (Value.slice a1 s.safe.length c1).ownBlock := fun e => by have := (hF.from_ _ (hF.in1 _ e.symm)).2; omega
  have hrd : Reads w2.drew 1 (.slice a2 0 c2) 0 [] := by simpa using (Reads.of_owns hF2.own2).take (Nat.zero_le _)
  obtain ⟨⟨k0, k1, _⟩, _⟩ := file_facts (w3 := w2) hF2.blk
  clear hF hF1 ht1 hw2
  go_region_law (go_loud (refine step_append_reads rfl (.tmp 21) (.tmp 27) 22 rfl B 5 i0 (.int .u8 0) 1 1 Try.underlying22 hi hz0 hz1 hz2 rfl (by decide) _ _ _ rfl hF2.own1 _ _ _ rfl hrd (by simp) (by unfold maxLen; omega) (by omega) hsz ?_; intro v' w3 hown hgrow _ hat; obtain ⟨hb3, hst⟩ := hF2.fallen [] r c k (by simpa using hown) hgrow hat; obtain ⟨⟨m0, m1, m2, m3, m4, m5, m6⟩, q0, q1, q2, q3, q4, q5, q6⟩ := file_facts hb3; have n0 := hgrow.cell p0 hnb; have n1 := hgrow.cell p1 hnb; have n2 := hgrow.cell p2 hnb; obtain ⟨a3, c3, rfl⟩ := owns_slice hown; have HS := Lib.hid (step_of ht2 hst); clear hst hown hgrow hF2 k0 k1 ht2 hrd hsz hat hb3 hbk hnb p0 p1 p2))
  all_goals go_end0
  all_goals exact ⟨rfl, HS.out⟩

set_option maxHeartbeats 1600000 in
theorem fall_pos (B g : Nat) (S : Nat → Prop) (sv lv : Value) (s : St) (r c k : Int) (w : World) (hF : FileAt B w g S sv lv s) (hz : s.safe.length + s.loose.length ≤ 100000000000000) (hk : 0 < k) (hk2 : k ≤ 9223372036854775807) (j : Nat) (hj : k % (s.loose.length + 1) = j) (hjl : j ≤ s.loose.length) :
    Calls Try.prog 14 #[.pointer (some ⟨g, 0, none⟩), .agg #[.int .i64 r, .int .i64 c, .int .i64 k]] w fun e w' => e = .returned (.tuple #[]) ∧ Step B S g w ⟨s.safe ++ s.loose.take j, [], r, c, k, 0, false⟩ w' := by
  obtain ⟨i0, hi, hz0, hz1, hz2⟩ := info_parts info5
  obtain ⟨a1, c1, rfl⟩ := owns_slice hF.own1
  obtain ⟨a2, c2, rfl⟩ := owns_slice hF.own2
  have ht1 := (Stir.refl (fun _ => False) w).alloc (.cells #[.int .i64 r, .int .i64 c, .int .i64 k] 27)
  have hF1 := hF.touch ht1 (fun _ _ e => e)
  obtain ⟨h0, h1, _⟩ := hF1.cells
  go_enter Try.func14, Try.ntmps14
  go_wp2
  go_quiet (fail)
  go_wp2
  rw [hj]
  clear h0 h1
  obtain ⟨w2, hw2⟩ : ∃ w2, ((w.alloc (.cells #[.int .i64 r, .int .i64 c, .int .i64 k] 27)).drewN nq) = w2 := ⟨_, rfl⟩
  rw [hw2]
  have hbk : w2.heap[w.heap.size]? = some (.cells #[.int .i64 r, .int .i64 c, .int .i64 k] 27 (0, 0)) := by rw [← hw2, World.heap_drewN]; exact heap_alloc_new _ _
  have ht2 : Stir (fun _ => False) w w2.drew := by rw [← hw2]; exact (ht1.drewN nq).drew
  have hF2 : FileAt B w2.drew g S _ _ s := hF.touch ht2 (fun _ _ e => e)
  have hsz : B ≤ w2.drew.heap.size := by have := hF2.from_ g hF2.inS; omega
  have hlt : w.heap.size < w2.drew.heap.size := (Array.getElem?_eq_some_iff.1 hbk).1
  have p0 : w2.cell? ⟨w.heap.size, 0, none⟩ = some (.int .i64 r) := by simp [World.cell?, hbk]
  have p1 : w2.cell? ⟨w.heap.size, 1, none⟩ = some (.int .i64 c) := by simp [World.cell?, hbk]
  have p2 : w2.cell? ⟨w.heap.size, 2, none⟩ = some (.int .i64 k) := by simp [World.cell?, hbk]
  have hnb : some w.heap.size ≠ (Value.slice a1 s.safe.length c1).ownBlock := fun e => by have := (hF.from_ _ (hF.in1 _ e.symm)).2; omega
  have hcap : j ≤ c2 := Nat.le_trans hjl (owns_cap hF2.own2)
  have hrd : Reads w2.drew 1 (.slice a2 j c2) j ((s.loose.take j).map B8) := by simpa using (Reads.of_owns hF2.own2).take hjl
  have hl : (s.loose.take j).length = j := by simp; omega
  have HJ := Lib.hid hj
  clear hj
  obtain ⟨⟨k0, k1, _⟩, _⟩ := file_facts (w3 := w2) hF2.blk
  clear hF hF1 ht1 hw2
  go_region_law (go_loud (refine step_append_reads rfl (.tmp 21) (.tmp 27) 22 rfl B 5 i0 (.int .u8 0) 1 1 Try.underlying22 hi hz0 hz1 hz2 rfl (by decide) _ _ _ rfl hF2.own1 _ _ _ rfl hrd (bytes_oneCell _) (by unfold maxLen; omega) (by omega) hsz ?_; intro v' w3 hown hgrow _ hat; obtain ⟨hb3, hst⟩ := hF2.fallen (s.loose.take j) r c k (by rw [hl]; exact hown) hgrow hat; obtain ⟨⟨m0, m1, m2, m3, m4, m5, m6⟩, q0, q1, q2, q3, q4, q5, q6⟩ := file_facts hb3; have n0 := hgrow.cell p0 hnb; have n1 := hgrow.cell p1 hnb; have n2 := hgrow.cell p2 hnb; obtain ⟨a3, c3, rfl⟩ := owns_slice hown; have HS := Lib.hid (step_of ht2 hst); clear hst hown hgrow hF2 k0 k1 ht2 hrd hsz hat hb3 hbk hnb p0 p1 p2))
  all_goals go_end0
  all_goals exact ⟨rfl, HS.out⟩

theorem kept_le (n : Nat) (k : Int) : kept n k ≤ n := by
  unfold kept; split
  · omega
  · have := Int.emod_lt_of_pos k (show (0 : Int) < n + 1 by omega); omega

theorem fall_any (B g : Nat) (S : Nat → Prop) (sv lv : Value) (s : St) (r c k : Int) (w : World) (hF : FileAt B w g S sv lv s) (hz : s.safe.length + s.loose.length ≤ 100000000000000) (hk : k ≤ 9223372036854775807) :
    Calls Try.prog 14 #[.pointer (some ⟨g, 0, none⟩), .agg #[.int .i64 r, .int .i64 c, .int .i64 k]] w fun e w' => e = .returned (.tuple #[]) ∧
      Step B S g w ⟨s.safe ++ s.loose.take (kept s.loose.length k), [], r, c, k, 0, false⟩ w' := by
  by_cases h : k ≤ 0
  · have : kept s.loose.length k = 0 := by unfold kept; rw [if_pos h]
    rw [this]
    exact fall_zero B g S sv lv s r c k w hF hz h
  · have e : k % (s.loose.length + 1) = (kept s.loose.length k : Nat) := by
      have := Int.emod_nonneg k (show ((s.loose.length : Int) + 1) ≠ 0 by omega)
      unfold kept; rw [if_neg h]; omega
    exact fall_pos B g S sv lv s r c k w hF hz (by omega) hk _ e (kept_le _ _)

end Go.Proofs.Ythllhpjjoifnmaa
