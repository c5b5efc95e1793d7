/- What each method of a file does to memory, method by method: contracts of caravan/file.File over the words 'FileAt'. Conditions: the bounds that each contract names. -/
import Derived.Test.YthllhpjjoifnmaaProg
import Derived.Test.YthllhpjjoifnmaaCavA
import Derived.Deep.QuietTactic
import Derived.BigQuiet
import Derived.Deep.DeepFit
namespace Go.Proofs.Ythllhpjjoifnmaa
open Go.RowKit Go.Cav

/-- What a file holds. -/
structure St where
  safe : List UInt8
  loose : List UInt8
  room : Int
  crash : Int
  keep : Int
  count : Int
  down : Bool

/-- The cells of a file. -/
def cellsOf (sv lv : Value) (s : St) : Array Value := #[sv, lv, .int .i64 s.room, .int .i64 s.crash, .int .i64 s.keep, .int .i64 s.count, .bool s.down]

/-- Block g is a file with that state; what it owns are the blocks of S, all from B on. -/
structure FileAt (B : Nat) (w : World) (g : Nat) (S : Nat → Prop) (sv lv : Value) (s : St) : Prop where
  blk : w.heap[g]? = some (.cells (cellsOf sv lv s) 53 (0, 0))
  own1 : w.ownsRow B 5 1 sv s.safe.length (s.safe.map B8)
  own2 : w.ownsRow B 5 1 lv s.loose.length (s.loose.map B8)
  low : B ≤ g
  inS : S g
  in1 : ∀ k, sv.ownBlock = some k → S k
  in2 : ∀ k, lv.ownBlock = some k → S k
  apart : ∀ k, sv.ownBlock = some k → lv.ownBlock ≠ some k
  from_ : ∀ k, S k → B ≤ k ∧ k < w.heap.size

theorem FileAt.ne1 {B : Nat} {w : World} {g : Nat} {S : Nat → Prop} {sv lv : Value} {s : St} (h : FileAt B w g S sv lv s) : sv.ownBlock ≠ some g := by
  intro e
  rcases h.own1.2 with ⟨rfl, _⟩ | ⟨g', cap, cur, rfl, _, hg, _⟩
  · cases e
  · simp only [Value.ownBlock, Option.some.injEq] at e
    subst e; have := h.blk; rw [hg] at this; cases this
theorem FileAt.ne2 {B : Nat} {w : World} {g : Nat} {S : Nat → Prop} {sv lv : Value} {s : St} (h : FileAt B w g S sv lv s) : lv.ownBlock ≠ some g := by
  intro e
  rcases h.own2.2 with ⟨rfl, _⟩ | ⟨g', cap, cur, rfl, _, hg, _⟩
  · cases e
  · simp only [Value.ownBlock, Option.some.injEq] at e
    subst e; have := h.blk; rw [hg] at this; cases this

/-- another step that leaves the file alone -/
theorem FileAt.touch {B : Nat} {w w' : World} {g : Nat} {S T : Nat → Prop} {sv lv : Value} {s : St} (h : FileAt B w g S sv lv s) (ht : Stir T w w') (hn : ∀ k, S k → ¬ T k) : FileAt B w' g S sv lv s :=
  ⟨(ht.block g (h.from_ g h.inS).2 (hn g h.inS)).trans h.blk, ht.owns h.own1 (fun k e => hn k (h.in1 k e)), ht.owns h.own2 (fun k e => hn k (h.in2 k e)), h.low, h.inS, h.in1, h.in2, h.apart,
   fun k hk => ⟨(h.from_ k hk).1, Nat.lt_of_lt_of_le (h.from_ k hk).2 ht.size⟩⟩

/-- one of the plain fields turned -/
theorem FileAt.set {B : Nat} {w : World} {g : Nat} {S : Nat → Prop} {sv lv : Value} {s s' : St} (h : FileAt B w g S sv lv s) (i : Nat) (v : Value) (e : (cellsOf sv lv s).setIfInBounds i v = cellsOf sv lv s') (e1 : s'.safe = s.safe) (e2 : s'.loose = s.loose) :
    FileAt B (w.setCell ⟨g, i, none⟩ v) g S sv lv s' := by
  refine ⟨?_, ?_, ?_, h.low, h.inS, h.in1, h.in2, h.apart, fun k hk => ⟨(h.from_ k hk).1, by simpa [World.setCell] using (h.from_ k hk).2⟩⟩
  · rw [heap_setCell_same w g i _ _ v h.blk, e]
  · rw [e1]; exact ownsRow_setCell_other h.own1 h.ne1 v
  · rw [e2]; exact ownsRow_setCell_other h.own2 h.ne2 v

theorem FileAt.setSafe {B : Nat} {w : World} {g : Nat} {S : Nat → Prop} {sv lv : Value} {s : St} (h : FileAt B w g S sv lv s) (sv' : Value) (l : List UInt8) (ho : w.ownsRow B 5 1 sv' l.length (l.map B8))
    (hin : ∀ k, sv'.ownBlock = some k → S k) (hap : ∀ k, sv'.ownBlock = some k → lv.ownBlock ≠ some k) : FileAt B (w.setCell ⟨g, 0, none⟩ sv') g S sv' lv { s with safe := l } := by
  have hne : sv'.ownBlock ≠ some g := by
    intro e
    rcases ho.2 with ⟨rfl, _⟩ | ⟨g', cap, cur, rfl, _, hg, _⟩
    · cases e
    · simp only [Value.ownBlock, Option.some.injEq] at e
      subst e; have := h.blk; rw [hg] at this; cases this
  refine ⟨?_, ownsRow_setCell_other ho hne _, ownsRow_setCell_other h.own2 h.ne2 _, h.low, h.inS, hin, h.in2, hap, fun k hk => ⟨(h.from_ k hk).1, by simpa [World.setCell] using (h.from_ k hk).2⟩⟩
  rw [heap_setCell_same w g 0 _ _ _ h.blk]; rfl
theorem FileAt.setLoose {B : Nat} {w : World} {g : Nat} {S : Nat → Prop} {sv lv : Value} {s : St} (h : FileAt B w g S sv lv s) (lv' : Value) (l : List UInt8) (ho : w.ownsRow B 5 1 lv' l.length (l.map B8))
    (hin : ∀ k, lv'.ownBlock = some k → S k) (hap : ∀ k, sv.ownBlock = some k → lv'.ownBlock ≠ some k) : FileAt B (w.setCell ⟨g, 1, none⟩ lv') g S sv lv' { s with loose := l } := by
  have hne : lv'.ownBlock ≠ some g := by
    intro e
    rcases ho.2 with ⟨rfl, _⟩ | ⟨g', cap, cur, rfl, _, hg, _⟩
    · cases e
    · simp only [Value.ownBlock, Option.some.injEq] at e
      subst e; have := h.blk; rw [hg] at this; cases this
  refine ⟨?_, ownsRow_setCell_other h.own1 h.ne1 _, ownsRow_setCell_other ho hne _, h.low, h.inS, h.in1, hin, hap, fun k hk => ⟨(h.from_ k hk).1, by simpa [World.setCell] using (h.from_ k hk).2⟩⟩
  rw [heap_setCell_same w g 1 _ _ _ h.blk]; rfl
theorem FileAt.drew {B : Nat} {w : World} {g : Nat} {S : Nat → Prop} {sv lv : Value} {s : St} (h : FileAt B w g S sv lv s) : FileAt B w.drew g S sv lv s := h.touch ((Stir.refl (fun _ => False) w).drew) (fun _ _ e => e)
/-- more blocks counted as its own -/
theorem FileAt.more {B : Nat} {w : World} {g : Nat} {S S' : Nat → Prop} {sv lv : Value} {s : St} (h : FileAt B w g S sv lv s) (hs : ∀ k, S k → S' k) (hf : ∀ k, S' k → B ≤ k ∧ k < w.heap.size) : FileAt B w g S' sv lv s :=
  ⟨h.blk, h.own1, h.own2, h.low, hs _ h.inS, fun k e => hs k (h.in1 k e), fun k e => hs k (h.in2 k e), h.apart, hf⟩

theorem FileAt.cells {B : Nat} {w : World} {g : Nat} {S : Nat → Prop} {sv lv : Value} {s : St} (h : FileAt B w g S sv lv s) :
    w.cell? ⟨g, 0, none⟩ = some sv ∧ w.cell? ⟨g, 1, none⟩ = some lv ∧ w.cell? ⟨g, 2, none⟩ = some (.int .i64 s.room) ∧ w.cell? ⟨g, 3, none⟩ = some (.int .i64 s.crash) ∧
    w.cell? ⟨g, 4, none⟩ = some (.int .i64 s.keep) ∧ w.cell? ⟨g, 5, none⟩ = some (.int .i64 s.count) ∧ w.cell? ⟨g, 6, none⟩ = some (.bool s.down) := by
  refine ⟨?_, ?_, ?_, ?_, ?_, ?_, ?_⟩ <;> simp [World.cell?, h.blk, cellsOf]
theorem FileAt.free {B : Nat} {w : World} {g : Nat} {S : Nat → Prop} {sv lv : Value} {s : St} (h : FileAt B w g S sv lv s) (i : Nat) : w.frozen? ⟨g, i, none⟩ = false := by simp [World.frozen?, h.blk]

set_option maxHeartbeats 400000 in
theorem asked_nil (w : World) : Calls Try.prog 28 #[.pointer none] w fun e w' => e = .returned (.int .i64 2) ∧ w = w' := by
  go_enter Try.func28, Try.ntmps28
  go_wp2
  go_ret
  exact ⟨rfl, rfl⟩

set_option maxHeartbeats 400000 in
theorem asked_up (g : Nat) (w : World) (h6 : w.cell? ⟨g, 6, none⟩ = some (.bool false)) : Calls Try.prog 28 #[.pointer (some ⟨g, 0, none⟩)] w fun e w' => e = .returned (.int .i64 0) ∧ w = w' := by
  go_enter Try.func28, Try.ntmps28
  go_wp2
  go_ret
  exact ⟨rfl, rfl⟩

set_option maxHeartbeats 400000 in
theorem asked_down (g : Nat) (w : World) (h6 : w.cell? ⟨g, 6, none⟩ = some (.bool true)) : Calls Try.prog 28 #[.pointer (some ⟨g, 0, none⟩)] w fun e w' => e = .returned (.int .i64 8) ∧ w = w' := by
  go_enter Try.func28, Try.ntmps28
  go_wp2
  go_ret
  exact ⟨rfl, rfl⟩

set_option maxHeartbeats 400000 in
theorem size_any (g : Nat) (w : World) (a b : Option Addr) (n m c d : Nat) (hn : n + m ≤ 9223372036854775807) (h0 : w.cell? ⟨g, 0, none⟩ = some (.slice a n c)) (h1 : w.cell? ⟨g, 1, none⟩ = some (.slice b m d)) :
    Calls Try.prog 27 #[.pointer (some ⟨g, 0, none⟩)] w fun e w' => e = .returned (.int .i64 (n + m : Nat)) ∧ ∃ q, w' = w.drewN q := by
  go_enter Try.func27, Try.ntmps27
  go_wp2
  go_quiet (fail)
  go_wp2
  go_ret
  exact ⟨rfl, _, rfl⟩

set_option maxHeartbeats 400000 in
theorem change_nil (n : Int) (w : World) : Calls Try.prog 26 #[.pointer none, .int .i64 n] w fun e w' => e = .returned (.int .i64 2) ∧ w = w' := by
  go_enter Try.func26, Try.ntmps26
  go_wp2_with (go_at_call 28; refine (asked_nil _).mono ?_; rintro e w' ⟨rfl, rfl⟩)
  go_ret
  exact ⟨rfl, rfl⟩

set_option maxHeartbeats 400000 in
theorem change_down (g : Nat) (n : Int) (w : World) (h6 : w.cell? ⟨g, 6, none⟩ = some (.bool true)) : Calls Try.prog 26 #[.pointer (some ⟨g, 0, none⟩), .int .i64 n] w fun e w' => e = .returned (.int .i64 8) ∧ w = w' := by
  go_enter Try.func26, Try.ntmps26
  go_wp2_with (go_at_call 28; refine (asked_down _ _ h6).mono ?_; rintro e w' ⟨rfl, rfl⟩)
  go_ret
  exact ⟨rfl, rfl⟩

set_option maxHeartbeats 400000 in
theorem change_full (g : Nat) (n room : Int) (w : World) (hr : room < n) (h2 : w.cell? ⟨g, 2, none⟩ = some (.int .i64 room)) (h6 : w.cell? ⟨g, 6, none⟩ = some (.bool false)) :
    Calls Try.prog 26 #[.pointer (some ⟨g, 0, none⟩), .int .i64 n] w fun e w' => e = .returned (.int .i64 7) ∧ w = w' := by
  go_enter Try.func26, Try.ntmps26
  go_wp2_with (go_at_call 28; refine (asked_up _ _ h6).mono ?_; rintro e w' ⟨rfl, rfl⟩)
  go_ret
  exact ⟨rfl, rfl⟩

/-- the world behind a change that was counted -/
def counted (w : World) (g : Nat) (count : Int) (down : Bool) : World := (w.setCell ⟨g, 5, none⟩ (.int .i64 count)).setCell ⟨g, 6, none⟩ (.bool down)

theorem counted_down {w : World} {g : Nat} {count : Int} {d d0 : Bool} (h6 : w.cell? ⟨g, 6, none⟩ = some (.bool d0)) : (counted w g count d).cell? ⟨g, 6, none⟩ = some (.bool d) := by
  unfold counted
  exact World.cell?_setCell_same' _ _ _ (by rw [World.cell?_setCell_other _ _ _ _ (by simp), h6]; rfl)

set_option maxHeartbeats 400000 in
theorem change_up (g : Nat) (n room crash count : Int) (w : World) (hr : n ≤ room) (h2 : w.cell? ⟨g, 2, none⟩ = some (.int .i64 room)) (h3 : w.cell? ⟨g, 3, none⟩ = some (.int .i64 crash))
    (h5 : w.cell? ⟨g, 5, none⟩ = some (.int .i64 count)) (h6 : w.cell? ⟨g, 6, none⟩ = some (.bool false)) (f5 : w.frozen? ⟨g, 5, none⟩ = false) (f6 : w.frozen? ⟨g, 6, none⟩ = false)
    (hc0 : 0 ≤ count) (hc1 : count ≤ 1000000) (hne : (count + 1 == crash) = false) :
    Calls Try.prog 26 #[.pointer (some ⟨g, 0, none⟩), .int .i64 n] w fun e w' => e = .returned (.int .i64 0) ∧ w' = (counted w g (count + 1) false).drew := by
  have hq : (counted w g (count + 1) false).drew.cell? ⟨g, 6, none⟩ = some (.bool false) := counted_down h6
  go_enter Try.func26, Try.ntmps26
  go_wp2_with (go_at_call 28; refine (asked_up _ _ h6).mono ?_; rintro e w' ⟨rfl, rfl⟩)
  go_region
  go_wp2_with (go_at_call 28; refine (asked_up _ _ hq).mono ?_; rintro e w' ⟨rfl, rfl⟩)
  go_ret
  exact ⟨rfl, rfl⟩

set_option maxHeartbeats 400000 in
theorem change_last (g : Nat) (n room crash count : Int) (w : World) (hr : n ≤ room) (h2 : w.cell? ⟨g, 2, none⟩ = some (.int .i64 room)) (h3 : w.cell? ⟨g, 3, none⟩ = some (.int .i64 crash))
    (h5 : w.cell? ⟨g, 5, none⟩ = some (.int .i64 count)) (h6 : w.cell? ⟨g, 6, none⟩ = some (.bool false)) (f5 : w.frozen? ⟨g, 5, none⟩ = false) (f6 : w.frozen? ⟨g, 6, none⟩ = false)
    (hc0 : 0 ≤ count) (hc1 : count ≤ 1000000) (hne : (count + 1 == crash) = true) :
    Calls Try.prog 26 #[.pointer (some ⟨g, 0, none⟩), .int .i64 n] w fun e w' => e = .returned (.int .i64 8) ∧ w' = (counted w g (count + 1) true).drew := by
  have hq : (counted w g (count + 1) true).drew.cell? ⟨g, 6, none⟩ = some (.bool true) := counted_down h6
  go_enter Try.func26, Try.ntmps26
  go_wp2_with (go_at_call 28; refine (asked_up _ _ h6).mono ?_; rintro e w' ⟨rfl, rfl⟩)
  go_region
  go_wp2_with (go_at_call 28; refine (asked_down _ _ hq).mono ?_; rintro e w' ⟨rfl, rfl⟩)
  go_ret
  exact ⟨rfl, rfl⟩

theorem FileAt.counted {B : Nat} {w : World} {g : Nat} {S : Nat → Prop} {sv lv : Value} {s : St} (h : FileAt B w g S sv lv s) (c : Int) (d : Bool) : FileAt B (counted w g c d) g S sv lv { s with count := c, down := d } :=
  (h.set (s' := { s with count := c }) 5 (.int .i64 c) rfl rfl rfl).set (s' := { s with count := c, down := d }) 6 (.bool d) rfl rfl rfl
theorem counted_stir {w : World} {g : Nat} (S : Nat → Prop) (hg : S g) (c : Int) (d : Bool) : Stir S w (counted w g c d) :=
  ((Stir.refl S w).setCell (p := ⟨g, 5, none⟩) (fun _ => hg) _).setCell (p := ⟨g, 6, none⟩) (fun _ => hg) _

/-- What a method leaves: the file in another state; it has grown by new blocks alone; nothing else has turned. -/
def Step (B : Nat) (S : Nat → Prop) (g : Nat) (w : World) (s' : St) (w' : World) : Prop :=
  ∃ S' sv lv, FileAt B w' g S' sv lv s' ∧ (∀ k, S' k → S k ∨ w.heap.size ≤ k) ∧ (∀ k, S k → S' k) ∧ Stir S w w'

theorem step_of {B g : Nat} {S : Nat → Prop} {w w1 w2 : World} {s' : St} (ht : Stir (fun _ => False) w w1) (h : Step B S g w1 s' w2) : Step B S g w s' w2 := by
  obtain ⟨S', sv, lv, hF, h1, h2, h3⟩ := h
  exact ⟨S', sv, lv, hF, fun k hk => (h1 k hk).imp id (fun h => Nat.le_trans ht.size h), h2, (ht.mono (fun _ _ e => e.elim)).trans h3 (fun _ _ e => e)⟩
theorem step_counted {B g : Nat} {S : Nat → Prop} {w : World} {sv lv : Value} {s : St} (h : FileAt B w g S sv lv s) (c : Int) (d : Bool) : Step B S g w { s with count := c, down := d } (counted w g c d).drew :=
  ⟨S, sv, lv, (h.counted c d).drew, fun _ h => .inl h, fun _ h => h, (counted_stir S h.inS c d).drew⟩

theorem Step.then_ {B g : Nat} {S : Nat → Prop} {w w1 w2 : World} {s' : St} (ht : Stir S w w1) (h : Step B S g w1 s' w2) : Step B S g w s' w2 := by
  obtain ⟨S', sv, lv, hF, h1, h2, h3⟩ := h
  exact ⟨S', sv, lv, hF, fun k hk => (h1 k hk).imp id (fun h => Nat.le_trans ht.size h), h2, ht.trans h3 (fun _ _ e => e)⟩

/-- the loose bytes have grown by an append: the field's cell, and the file behind its store -/
theorem FileAt.appended {B : Nat} {w w3 : World} {g : Nat} {S : Nat → Prop} {sv lv v' : Value} {s : St} (h : FileAt B w g S sv lv s) (bs : List UInt8) (ho : w3.ownsRow B 5 1 v' (s.loose.length + bs.length) (s.loose.map B8 ++ bs.map B8))
    (hg : w.grownBy w3 lv.ownBlock) (hat : v'.ownBlock = lv.ownBlock ∨ v'.ownBlock = some w.heap.size) :
    (∃ u, w3.cell? ⟨g, 1, none⟩ = some u) ∧ w3.frozen? ⟨g, 1, none⟩ = false ∧ Step B S g w { s with loose := s.loose ++ bs } (w3.setCell ⟨g, 1, none⟩ v') := by
  have hgS := h.from_ g h.inS
  have hblk : w3.heap[g]? = some (.cells (cellsOf sv lv s) 53 (0, 0)) := (hg.block g hgS.2 (fun e => h.ne2 e.symm)).trans h.blk
  have hnew : ∀ k, v'.ownBlock = some k → k < w3.heap.size := fun k e => (ho.lt k e).2
  have h1 : w3.ownsRow B 5 1 sv s.safe.length (s.safe.map B8) := h.own1.kept hg (by
    rcases hs : sv.ownBlock with _ | k
    · exact .inl rfl
    · exact .inr (fun e => h.apart k hs e.symm))
  have h3 : w3.ownsRow B 5 1 v' (s.loose ++ bs).length ((s.loose ++ bs).map B8) := by simpa using ho
  have hne : v'.ownBlock ≠ some g := by
    rcases hat with e | e
    · rw [e]; exact h.ne2
    · rw [e]; intro e'; have := hgS.2; simp at e'; omega
  refine ⟨⟨lv, by simp [World.cell?, hblk, cellsOf]⟩, by simp [World.frozen?, hblk], fun k => S k ∨ (w.heap.size ≤ k ∧ k < w3.heap.size), sv, v', ?_, fun k hk => hk.imp id (fun e => e.1), fun _ e => .inl e, ?_⟩
  · refine ⟨?_, ownsRow_setCell_other h1 h.ne1 _, ownsRow_setCell_other h3 hne _, h.low, .inl h.inS, fun k e => .inl (h.in1 k e), ?_, ?_, ?_⟩
    · rw [heap_setCell_same w3 g 1 _ _ _ hblk]; rfl
    · intro k e
      rcases hat with e' | e'
      · exact .inl (h.in2 k (e'.symm.trans e))
      · rw [e'] at e; cases e
        exact .inr ⟨Nat.le_refl _, hnew _ e'⟩
    · intro k e e2
      rcases hat with e' | e'
      · exact h.apart k e (e'.symm.trans e2)
      · rw [e'] at e2; cases e2
        have := (h.from_ _ (h.in1 _ e)).2
        omega
    · intro k hk
      have hsz : (w3.setCell ⟨g, 1, none⟩ v').heap.size = w3.heap.size := by simp [World.setCell]
      rw [hsz]
      rcases hk with hk | ⟨k1, k2⟩
      · exact ⟨(h.from_ k hk).1, Nat.lt_of_lt_of_le (h.from_ k hk).2 hg.size⟩
      · exact ⟨by have := h.from_ g h.inS; omega, k2⟩
  · exact ((Stir.refl S w).grown hg (fun k e _ => h.in2 k e)).setCell (p := ⟨g, 1, none⟩) (fun _ => h.inS) _

/-- the safe bytes have grown by an append: the fields' cells, and the file behind its stores -/
theorem FileAt.appendedSafe {B : Nat} {w w3 : World} {g : Nat} {S : Nat → Prop} {sv lv v' : Value} {s : St} (h : FileAt B w g S sv lv s) (bs : List UInt8) (ho : w3.ownsRow B 5 1 v' (s.safe.length + bs.length) (s.safe.map B8 ++ bs.map B8))
    (hg : w.grownBy w3 sv.ownBlock) (hat : v'.ownBlock = sv.ownBlock ∨ v'.ownBlock = some w.heap.size) :
    w3.heap[g]? = some (.cells (cellsOf sv lv s) 53 (0, 0)) ∧ ∃ S', FileAt B (w3.setCell ⟨g, 0, none⟩ v') g S' v' lv { s with safe := s.safe ++ bs } ∧ (∀ k, S' k → S k ∨ w.heap.size ≤ k) ∧ (∀ k, S k → S' k) ∧ Stir S w (w3.setCell ⟨g, 0, none⟩ v') := by
  have hgS := h.from_ g h.inS
  have hblk : w3.heap[g]? = some (.cells (cellsOf sv lv s) 53 (0, 0)) := (hg.block g hgS.2 (fun e => h.ne1 e.symm)).trans h.blk
  have hnew : ∀ k, v'.ownBlock = some k → k < w3.heap.size := fun k e => (ho.lt k e).2
  have h1 : w3.ownsRow B 5 1 lv s.loose.length (s.loose.map B8) := h.own2.kept hg (by
    rcases hs : lv.ownBlock with _ | k
    · exact .inl rfl
    · exact .inr (fun e => h.apart k e.symm hs))
  have h3 : w3.ownsRow B 5 1 v' (s.safe ++ bs).length ((s.safe ++ bs).map B8) := by simpa using ho
  have hne : v'.ownBlock ≠ some g := by
    rcases hat with e | e
    · rw [e]; exact h.ne1
    · rw [e]; intro e'; have := hgS.2; simp at e'; omega
  refine ⟨hblk, fun k => S k ∨ (w.heap.size ≤ k ∧ k < w3.heap.size), ?_, fun k hk => hk.imp id (fun e => e.1), fun _ e => .inl e, ?_⟩
  · refine ⟨?_, ownsRow_setCell_other h3 hne _, ownsRow_setCell_other h1 h.ne2 _, h.low, .inl h.inS, ?_, fun k e => .inl (h.in2 k e), ?_, ?_⟩
    · rw [heap_setCell_same w3 g 0 _ _ _ hblk]; rfl
    · intro k e
      rcases hat with e' | e'
      · exact .inl (h.in1 k (e'.symm.trans e))
      · rw [e'] at e; cases e
        exact .inr ⟨Nat.le_refl _, hnew _ e'⟩
    · intro k e e2
      rcases hat with e' | e'
      · exact h.apart k (e'.symm.trans e) e2
      · rw [e'] at e; cases e
        have := (h.from_ _ (h.in2 _ e2)).2
        omega
    · intro k hk
      have hsz : (w3.setCell ⟨g, 0, none⟩ v').heap.size = w3.heap.size := by simp [World.setCell]
      rw [hsz]
      rcases hk with hk | ⟨k1, k2⟩
      · exact ⟨(h.from_ k hk).1, Nat.lt_of_lt_of_le (h.from_ k hk).2 hg.size⟩
      · exact ⟨by have := h.from_ g h.inS; omega, k2⟩
  · exact ((Stir.refl S w).grown hg (fun k e _ => h.in1 k e)).setCell (p := ⟨g, 0, none⟩) (fun _ => h.inS) _

theorem FileAt.synced {B : Nat} {w w3 : World} {g : Nat} {S : Nat → Prop} {sv lv v' : Value} {s : St} (h : FileAt B w g S sv lv s) (ho : w3.ownsRow B 5 1 v' (s.safe.length + s.loose.length) (s.safe.map B8 ++ s.loose.map B8))
    (hg : w.grownBy w3 sv.ownBlock) (hat : v'.ownBlock = sv.ownBlock ∨ v'.ownBlock = some w.heap.size) :
    (∃ u, w3.cell? ⟨g, 0, none⟩ = some u) ∧ w3.frozen? ⟨g, 0, none⟩ = false ∧ (∃ u, w3.cell? ⟨g, 1, none⟩ = some u) ∧ w3.frozen? ⟨g, 1, none⟩ = false ∧
    Step B S g w { s with safe := s.safe ++ s.loose, loose := [] } ((w3.setCell ⟨g, 0, none⟩ v').setCell ⟨g, 1, none⟩ (.slice none 0 0)) := by
  obtain ⟨hblk, S', hF, h1, h2, h3⟩ := h.appendedSafe s.loose ho hg hat
  refine ⟨⟨sv, by simp [World.cell?, hblk, cellsOf]⟩, by simp [World.frozen?, hblk], ⟨lv, by simp [World.cell?, hblk, cellsOf]⟩, by simp [World.frozen?, hblk], S', v', _, hF.setLoose _ [] (World.ownsRow_nil _ _ _ _) (fun k e => by cases e) (fun k _ e => by cases e), h1, h2, h3.setCell (p := ⟨g, 1, none⟩) (fun _ => h.inS) _⟩

/-- other bytes have become all of it -/
theorem FileAt.swapped {B N : Nat} {w : World} {g : Nat} {S : Nat → Prop} {sv lv v : Value} {s : St} (h : FileAt B w g S sv lv s) (bs : List UInt8) (ho : w.ownsRow N 5 1 v bs.length (bs.map B8)) (hout : ∀ k, v.ownBlock = some k → ¬ S k) (hN : B ≤ N) :
    ∃ S', FileAt B ((w.setCell ⟨g, 0, none⟩ v).setCell ⟨g, 1, none⟩ (.slice none 0 0)) g S' v (.slice none 0 0) { s with safe := bs, loose := [] } ∧ (∀ k, S' k → S k ∨ v.ownBlock = some k) ∧ (∀ k, S k → S' k) ∧ Stir S w ((w.setCell ⟨g, 0, none⟩ v).setCell ⟨g, 1, none⟩ (.slice none 0 0)) := by
  have hoB : w.ownsRow B 5 1 v bs.length (bs.map B8) := by
    refine ⟨ho.1, ?_⟩
    rcases ho.2 with hl | ⟨g', cap, cur, hv, hb, r⟩
    · exact .inl hl
    · exact .inr ⟨g', cap, cur, hv, Nat.le_trans hN hb, r⟩
  have h1 := (h.more (S' := fun k => S k ∨ v.ownBlock = some k) (fun k e => .inl e) (fun k hk => hk.elim (h.from_ k) (fun e => hoB.lt k e))).setSafe v bs hoB (fun k e => .inr e) (fun k e e2 => hout k e (h.in2 k e2))
  have h2 := h1.setLoose (.slice none 0 0) [] (World.ownsRow_nil _ _ _ _) (fun k e => by cases e) (fun k _ e => by cases e)
  exact ⟨_, h2, fun k hk => hk, fun k hk => .inl hk, ((Stir.refl S w).setCell (p := ⟨g, 0, none⟩) (fun _ => h.inS) _).setCell (p := ⟨g, 1, none⟩) (fun _ => h.inS) _⟩

theorem info5 : (Try.prog.info? 5).map (fun i => (i.zero, i.size, i.bytes)) = some (some (.int .u8 0), 1, 1) := by kernel_rfl

end Go.Proofs.Ythllhpjjoifnmaa
