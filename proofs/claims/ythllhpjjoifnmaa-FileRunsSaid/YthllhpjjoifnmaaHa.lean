/- What each method of the document's file does, method by method. Conditions: the bounds that each contract names. -/
import Derived.Test.YthllhpjjoifnmaaFd
namespace Go.Proofs.Ythllhpjjoifnmaa
open Go.RowKit Go.Cav

/-- the cells of the document's file -/
def rc (S L : ByteArray) (room left : Int) (off : Bool) : Array Value := #[.string S, .string L, .int .i64 room, .int .i64 left, .bool off]
def RAt (w : World) (h : Nat) (c : Array Value) : Prop := w.heap[h]? = some (.cells c 49 (0, 0))

theorem RAt.cells {w : World} {h : Nat} {S L : ByteArray} {room left : Int} {off : Bool} (k : RAt w h (rc S L room left off)) :
    w.cell? ⟨h, 0, none⟩ = some (.string S) ∧ w.cell? ⟨h, 1, none⟩ = some (.string L) ∧ w.cell? ⟨h, 2, none⟩ = some (.int .i64 room) ∧ w.cell? ⟨h, 3, none⟩ = some (.int .i64 left) ∧ w.cell? ⟨h, 4, none⟩ = some (.bool off) := by
  unfold RAt at k
  refine ⟨?_, ?_, ?_, ?_, ?_⟩ <;> simp [World.cell?, k, rc]
theorem RAt.free {w : World} {h : Nat} {c : Array Value} (k : RAt w h c) (i : Nat) : w.frozen? ⟨h, i, none⟩ = false := by unfold RAt at k; simp [World.frozen?, k]
theorem RAt.set {w : World} {h : Nat} {c : Array Value} (k : RAt w h c) (i : Nat) (v : Value) {c' : Array Value} (e : c.setIfInBounds i v = c') : RAt (w.setCell ⟨h, i, none⟩ v) h c' := by
  unfold RAt at *; rw [heap_setCell_same w h i _ _ v k, e]
theorem RAt.touch {w w' : World} {h : Nat} {c : Array Value} {T : Nat → Prop} (k : RAt w h c) (ht : Stir T w w') (hn : ¬ T h) : RAt w' h c := by
  unfold RAt at *
  have hl : h < w.heap.size := by
    rcases Nat.lt_or_ge h w.heap.size with e | e
    · exact e
    · rw [Array.getElem?_eq_none e] at k; cases k
  exact (ht.block h hl hn).trans k
theorem RAt.drew {w : World} {h : Nat} {c : Array Value} (k : RAt w h c) : RAt w.drew h c := k
theorem RAt.lt {w : World} {h : Nat} {c : Array Value} (k : RAt w h c) : h < w.heap.size := by
  unfold RAt at k
  rcases Nat.lt_or_ge h w.heap.size with e | e
  · exact e
  · rw [Array.getElem?_eq_none e] at k; cases k
/-- what a method of the document's file leaves -/
def RStep (h : Nat) (w : World) (c : Array Value) (w' : World) : Prop := RAt w' h c ∧ Stir (fun k => k = h) w w'
theorem RStep.refl {w : World} {h : Nat} {c : Array Value} (k : RAt w h c) : RStep h w c w := ⟨k, Stir.refl _ _⟩
theorem RStep.drew {w w' : World} {h : Nat} {c : Array Value} (k : RStep h w c w') : RStep h w c w'.drew := ⟨k.1, k.2.drew⟩
theorem RStep.set {w w' : World} {h : Nat} {c : Array Value} (k : RStep h w c w') (i : Nat) (v : Value) {c' : Array Value} (e : c.setIfInBounds i v = c') : RStep h w c' (w'.setCell ⟨h, i, none⟩ v) :=
  ⟨k.1.set i v e, k.2.setCell (fun _ => rfl) v⟩
theorem RStep.trans {w w1 w2 : World} {h : Nat} {c c' : Array Value} (k : RStep h w c w1) (k' : RStep h w1 c' w2) : RStep h w c' w2 := ⟨k'.1, k.2.trans k'.2 (fun _ _ e => e)⟩

def dec (left : Int) : Int := if 0 < left then left - 1 else 0

set_option maxHeartbeats 400000 in
theorem ref_count (h : Nat) (w : World) (S L : ByteArray) (room left : Int) (k : RAt w h (rc S L room left false)) (h0 : 0 ≤ left) (h1 : left ≤ 9223372036854775807) :
    Calls Try.prog 31 #[.pointer (some ⟨h, 0, none⟩)] w fun e w' => e = .returned (.bool (!decide (left = 1))) ∧ RStep h w (rc S L room (dec left) (decide (left = 1))) w' := by
  obtain ⟨_, _, _, c3, c4⟩ := k.cells
  have f3 := k.free 3
  have f4 := k.free 4
  by_cases hl : 0 < left
  · have hw : IntKind.i64.wrap (left - 1) = left - 1 := by rw [IntKind.wrap_i64]; omega
    go_enter Try.func31, Try.ntmps31
    go_wp2
    go_ret
    have he : (left - 1 == 0) = decide (left = 1) := by rw [Bool.eq_iff_iff]; simp; omega
    rw [he]
    refine ⟨rfl, ?_⟩
    have := ((RStep.refl k).set 3 (.int .i64 (left - 1)) (c' := rc S L room (left - 1) false) rfl).set 4 (.bool (decide (left = 1))) (c' := rc S L room (left - 1) (decide (left = 1))) rfl
    unfold dec
    rw [if_pos hl]
    exact this
  · obtain rfl : left = 0 := by omega
    go_enter Try.func31, Try.ntmps31
    go_wp2
    go_ret
    exact ⟨by simp, RStep.refl k⟩

theorem ref_new (r c k : Int) (w : World) : Calls Try.prog 17 #[.agg #[.int .i64 r, .int .i64 c, .int .i64 k]] w fun e w' => ∃ h, e = .returned (.pointer (some ⟨h, 0, none⟩)) ∧ w.heap.size ≤ h ∧
    RAt w' h (rc ⟨#[]⟩ ⟨#[]⟩ r (if 0 < c then c else 0) false) ∧ Stir (fun _ => False) w w' := by
  go_enter Try.func17, Try.ntmps17
  go_wp2
  all_goals go_ret
  all_goals (
    refine ⟨w.heap.size + 1, rfl, by omega, ?_, ((Stir.refl _ w).alloc _).alloc _⟩
    have := fun o => heap_alloc_new (w.alloc (.cells #[.int .i64 r, .int .i64 c, .int .i64 k] 27)) o
    rw [World.size_alloc] at this
    exact this _)

/-! ### Add -/
set_option maxHeartbeats 400000 in
theorem raw_add_down (h : Nat) (w : World) (S L T : ByteArray) (room left : Int) (k : RAt w h (rc S L room left true)) :
    Calls Try.prog 18 #[.pointer (some ⟨h, 0, none⟩), .string T] w fun e w' => e = .returned (.int .i64 8) ∧ RStep h w (rc S L room left true) w' := by
  obtain ⟨_, _, _, c3, c4⟩ := k.cells
  go_enter Try.func18, Try.ntmps18
  go_wp2
  go_ret
  exact ⟨rfl, RStep.refl k⟩

set_option maxHeartbeats 400000 in
theorem raw_add_full (h : Nat) (w : World) (S L T : ByteArray) (room left : Int) (k : RAt w h (rc S L room left false)) (hz : S.size + L.size + T.size ≤ 100000000000000) (hr : room < (S.size : Int) + (L.size : Int) + (T.size : Int)) :
    Calls Try.prog 18 #[.pointer (some ⟨h, 0, none⟩), .string T] w fun e w' => e = .returned (.int .i64 7) ∧ RStep h w (rc S L room left false) w' := by
  obtain ⟨c0, c1, c2, c3, c4⟩ := k.cells
  go_enter Try.func18, Try.ntmps18
  go_wp2
  all_goals go_region
  all_goals go_wp2
  go_ret
  exact ⟨rfl, (RStep.refl k).drew⟩

set_option maxHeartbeats 800000 in
theorem raw_add_up (h : Nat) (w : World) (S L T : ByteArray) (room left : Int) (k : RAt w h (rc S L room left false)) (hz : S.size + L.size + T.size ≤ 100000000000000) (hr : (S.size : Int) + (L.size : Int) + (T.size : Int) ≤ room) (h0 : 0 ≤ left) (h1 : left ≤ 9223372036854775807) (hl : left ≠ 1) :
    Calls Try.prog 18 #[.pointer (some ⟨h, 0, none⟩), .string T] w fun e w' => e = .returned (.int .i64 0) ∧ RStep h w (rc S (L ++ T) room (dec left) false) w' := by
  obtain ⟨c0, c1, c2, c3, c4⟩ := k.cells
  have hd : decide (left = 1) = false := by simp [hl]
  go_enter Try.func18, Try.ntmps18
  go_wp2
  go_region
  go_wp2_with fail
  refine (ref_count h _ S L room left k.drew h0 h1).mono ?_
  rw [hd]
  rintro e w1 ⟨rfl, k1⟩
  obtain ⟨d0, d1, d2, d3, d4⟩ := k1.1.cells
  have f1 := k1.1.free 1
  have kk := ((RStep.refl k).drew.trans k1).set 1 (.string (L ++ T)) (c' := rc S (L ++ T) room (dec left) false) rfl
  clear k c0 c1 c2 c3 c4
  go_wp2
  go_ret
  exact ⟨rfl, kk⟩

set_option maxHeartbeats 800000 in
theorem raw_add_last (h : Nat) (w : World) (S L T : ByteArray) (room : Int) (k : RAt w h (rc S L room 1 false)) (hz : S.size + L.size + T.size ≤ 100000000000000) (hr : (S.size : Int) + (L.size : Int) + (T.size : Int) ≤ room) :
    Calls Try.prog 18 #[.pointer (some ⟨h, 0, none⟩), .string T] w fun e w' => e = .returned (.int .i64 8) ∧ RStep h w (rc S L room 0 true) w' := by
  obtain ⟨c0, c1, c2, c3, c4⟩ := k.cells
  go_enter Try.func18, Try.ntmps18
  go_wp2
  go_region
  go_wp2_with fail
  refine (ref_count h _ S L room 1 k.drew (by decide) (by decide)).mono ?_
  rintro e w1 ⟨rfl, k1⟩
  have kk := (RStep.refl k).drew.trans k1
  clear k k1 c0 c1 c2 c3 c4
  go_wp2
  go_ret
  exact ⟨rfl, kk⟩

/-! ### Sync -/
set_option maxHeartbeats 400000 in
theorem raw_sync_down (h : Nat) (w : World) (S L : ByteArray) (room left : Int) (k : RAt w h (rc S L room left true)) :
    Calls Try.prog 19 #[.pointer (some ⟨h, 0, none⟩)] w fun e w' => e = .returned (.int .i64 8) ∧ RStep h w (rc S L room left true) w' := by
  obtain ⟨_, _, _, c3, c4⟩ := k.cells
  go_enter Try.func19, Try.ntmps19
  go_wp2
  go_ret
  exact ⟨rfl, RStep.refl k⟩

set_option maxHeartbeats 800000 in
theorem raw_sync_last (h : Nat) (w : World) (S L : ByteArray) (room : Int) (k : RAt w h (rc S L room 1 false)) :
    Calls Try.prog 19 #[.pointer (some ⟨h, 0, none⟩)] w fun e w' => e = .returned (.int .i64 8) ∧ RStep h w (rc S L room 0 true) w' := by
  obtain ⟨c0, c1, c2, c3, c4⟩ := k.cells
  go_enter Try.func19, Try.ntmps19
  go_wp2_with fail
  refine (ref_count h _ S L room 1 k (by decide) (by decide)).mono ?_
  rintro e w1 ⟨rfl, k1⟩
  have kk := (RStep.refl k).trans k1
  clear k k1 c0 c1 c2 c3 c4
  go_wp2
  go_ret
  exact ⟨rfl, kk⟩

set_option maxHeartbeats 800000 in
theorem raw_sync_up (h : Nat) (w : World) (S L : ByteArray) (room left : Int) (k : RAt w h (rc S L room left false)) (hz : S.size + L.size ≤ 9223372036854775807) (h0 : 0 ≤ left) (h1 : left ≤ 9223372036854775807) (hl : left ≠ 1) :
    Calls Try.prog 19 #[.pointer (some ⟨h, 0, none⟩)] w fun e w' => e = .returned (.int .i64 0) ∧ RStep h w (rc (S ++ L) ⟨#[]⟩ room (dec left) false) w' := by
  obtain ⟨c0, c1, c2, c3, c4⟩ := k.cells
  have hd : decide (left = 1) = false := by simp [hl]
  go_enter Try.func19, Try.ntmps19
  go_wp2_with fail
  refine (ref_count h _ S L room left k h0 h1).mono ?_
  rw [hd]
  rintro e w1 ⟨rfl, k1⟩
  obtain ⟨d0, d1, d2, d3, d4⟩ := k1.1.cells
  have f0 := k1.1.free 0
  have f1 := k1.1.free 1
  have kk := (((RStep.refl k).trans k1).drew.set 0 (.string (S ++ L)) (c' := rc (S ++ L) L room (dec left) false) rfl).set 1 (.string ⟨#[]⟩) (c' := rc (S ++ L) ⟨#[]⟩ room (dec left) false) rfl
  clear k k1 c0 c1 c2 c3 c4
  go_wp2
  go_region
  go_wp2
  go_ret
  exact ⟨rfl, kk⟩

/-! ### Swap -/
set_option maxHeartbeats 400000 in
theorem raw_swap_down (h : Nat) (w : World) (S L T : ByteArray) (room left : Int) (k : RAt w h (rc S L room left true)) :
    Calls Try.prog 20 #[.pointer (some ⟨h, 0, none⟩), .string T] w fun e w' => e = .returned (.int .i64 8) ∧ RStep h w (rc S L room left true) w' := by
  obtain ⟨_, _, _, c3, c4⟩ := k.cells
  go_enter Try.func20, Try.ntmps20
  go_wp2
  go_ret
  exact ⟨rfl, RStep.refl k⟩

set_option maxHeartbeats 400000 in
theorem raw_swap_full (h : Nat) (w : World) (S L T : ByteArray) (room left : Int) (k : RAt w h (rc S L room left false)) (hr : room < (T.size : Int)) :
    Calls Try.prog 20 #[.pointer (some ⟨h, 0, none⟩), .string T] w fun e w' => e = .returned (.int .i64 7) ∧ RStep h w (rc S L room left false) w' := by
  obtain ⟨c0, c1, c2, c3, c4⟩ := k.cells
  go_enter Try.func20, Try.ntmps20
  go_wp2
  go_ret
  exact ⟨rfl, RStep.refl k⟩

set_option maxHeartbeats 800000 in
theorem raw_swap_last (h : Nat) (w : World) (S L T : ByteArray) (room : Int) (k : RAt w h (rc S L room 1 false)) (hr : (T.size : Int) ≤ room) :
    Calls Try.prog 20 #[.pointer (some ⟨h, 0, none⟩), .string T] w fun e w' => e = .returned (.int .i64 8) ∧ RStep h w (rc S L room 0 true) w' := by
  obtain ⟨c0, c1, c2, c3, c4⟩ := k.cells
  go_enter Try.func20, Try.ntmps20
  go_wp2_with fail
  refine (ref_count h _ S L room 1 k (by decide) (by decide)).mono ?_
  rintro e w1 ⟨rfl, k1⟩
  have kk := (RStep.refl k).trans k1
  clear k k1 c0 c1 c2 c3 c4
  go_wp2
  go_ret
  exact ⟨rfl, kk⟩

set_option maxHeartbeats 800000 in
theorem raw_swap_up (h : Nat) (w : World) (S L T : ByteArray) (room left : Int) (k : RAt w h (rc S L room left false)) (hr : (T.size : Int) ≤ room) (h0 : 0 ≤ left) (h1 : left ≤ 9223372036854775807) (hl : left ≠ 1) :
    Calls Try.prog 20 #[.pointer (some ⟨h, 0, none⟩), .string T] w fun e w' => e = .returned (.int .i64 0) ∧ RStep h w (rc T ⟨#[]⟩ room (dec left) false) w' := by
  obtain ⟨c0, c1, c2, c3, c4⟩ := k.cells
  have hd : decide (left = 1) = false := by simp [hl]
  go_enter Try.func20, Try.ntmps20
  go_wp2_with fail
  refine (ref_count h _ S L room left k h0 h1).mono ?_
  rw [hd]
  rintro e w1 ⟨rfl, k1⟩
  obtain ⟨d0, d1, d2, d3, d4⟩ := k1.1.cells
  have f0 := k1.1.free 0
  have f1 := k1.1.free 1
  have kk := (((RStep.refl k).trans k1).set 0 (.string T) (c' := rc T L room (dec left) false) rfl).set 1 (.string ⟨#[]⟩) (c' := rc T ⟨#[]⟩ room (dec left) false) rfl
  clear k k1 c0 c1 c2 c3 c4
  go_wp2
  go_ret
  exact ⟨rfl, kk⟩

/-! ### Tear, Bytes -/
set_option maxHeartbeats 400000 in
theorem raw_tear (h : Nat) (w : World) (S L : ByteArray) (room left : Int) (off : Bool) (n : Int) (k : RAt w h (rc S L room left off)) :
    Calls Try.prog 22 #[.pointer (some ⟨h, 0, none⟩), .int .i64 n] w fun e w' => e = .returned (.tuple #[]) ∧ RStep h w (rc S L room (if 0 < n then n else 0) off) w' := by
  obtain ⟨_, _, _, c3, c4⟩ := k.cells
  have f3 := k.free 3
  go_enter Try.func22, Try.ntmps22
  go_wp2
  all_goals go_end0
  all_goals exact ⟨rfl, (RStep.refl k).set 3 _ rfl⟩

set_option maxHeartbeats 400000 in
theorem raw_bytes_down (h : Nat) (w : World) (S L : ByteArray) (room left : Int) (k : RAt w h (rc S L room left true)) :
    Calls Try.prog 24 #[.pointer (some ⟨h, 0, none⟩)] w fun e w' => e = .returned (.tuple #[.string ⟨#[]⟩, .int .i64 8]) ∧ Stir (fun _ => False) w w' := by
  obtain ⟨_, _, _, c3, c4⟩ := k.cells
  go_enter Try.func24, Try.ntmps24
  go_wp2
  go_ret2
  exact ⟨rfl, Stir.refl _ _⟩

set_option maxHeartbeats 400000 in
theorem raw_bytes_up (h : Nat) (w : World) (S L : ByteArray) (room left : Int) (k : RAt w h (rc S L room left false)) (hz : S.size + L.size ≤ 9223372036854775807) :
    Calls Try.prog 24 #[.pointer (some ⟨h, 0, none⟩)] w fun e w' => e = .returned (.tuple #[.string (S ++ L), .int .i64 0]) ∧ Stir (fun _ => False) w w' := by
  obtain ⟨c0, c1, _, c3, c4⟩ := k.cells
  go_enter Try.func24, Try.ntmps24
  go_wp2
  go_region
  go_wp2
  go_ret2
  exact ⟨rfl, (Stir.refl _ _).drew⟩

end Go.Proofs.Ythllhpjjoifnmaa
