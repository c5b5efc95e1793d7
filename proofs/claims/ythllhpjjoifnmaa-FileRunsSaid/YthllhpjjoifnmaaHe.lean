/- Both files side by side, call by call: one state each, kept by every call of the other. Conditions: the bounds that each contract names. -/
import Derived.Test.YthllhpjjoifnmaaHc
import Derived.Test.YthllhpjjoifnmaaHd
import Derived.Test.YthllhpjjoifnmaaGd
namespace Go.Proofs.Ythllhpjjoifnmaa
open Go.RowKit Go.Cav

/-- the program's file holds s, the document's holds t; nothing that was there at W has changed -/
def Inv2 (W : World) (g h : Nat) (s t : St) (w : World) : Prop :=
  ∃ S sv lv, FileAt W.heap.size w g S sv lv s ∧ RAt w h (refc t) ∧ ¬ S h ∧ W.heap.size ≤ h ∧ Below W.heap.size W w

theorem Inv2.below {W : World} {g h : Nat} {s t : St} {w : World} (i : Inv2 W g h s t w) : Below W.heap.size W w := by obtain ⟨_, _, _, _, _, _, _, b⟩ := i; exact b

theorem Inv2.quiet {W : World} {g h : Nat} {s t : St} {w w' : World} (i : Inv2 W g h s t w) (ht : Stir (fun _ => False) w w') : Inv2 W g h s t w' := by
  obtain ⟨S, sv, lv, hF, hR, hn, hl, hb⟩ := i
  exact ⟨S, sv, lv, hF.touch ht (fun _ _ e => e), hR.touch ht (fun e => e), hn, hl, hb.trans (below_of_false ht hb.size)⟩

theorem Inv2.go {W : World} {g h : Nat} {s s' t : St} {w w' : World} {S : Nat → Prop} {sv lv : Value} (hF : FileAt W.heap.size w g S sv lv s) (hR : RAt w h (refc t)) (hn : ¬ S h) (hl : W.heap.size ≤ h) (hb : Below W.heap.size W w) (hs : Step W.heap.size S g w s' w') : Inv2 W g h s' t w' := by
  have hB := hb.trans (step_below hs hb.size (fun k e => (hF.from_ k e).1))
  obtain ⟨S', sv', lv', hF', h1, h2, h3⟩ := hs
  refine ⟨S', sv', lv', hF', hR.touch h3 hn, fun e => ?_, hl, hB⟩
  rcases h1 h e with q | q
  · exact hn q
  · have := hR.lt; omega

theorem Inv2.doc {W : World} {g h : Nat} {s t' : St} {w w' : World} {S : Nat → Prop} {sv lv : Value} (hF : FileAt W.heap.size w g S sv lv s) (hn : ¬ S h) (hl : W.heap.size ≤ h) (hb : Below W.heap.size W w) (hs : RStep h w (refc t') w') : Inv2 W g h s t' w' :=
  ⟨S, sv, lv, hF.touch hs.2 (fun _ e q => hn (q ▸ e)), hs.1, hn, hl, hb.trans (hs.2.below hb.size (fun _ e => e ▸ hl))⟩

def bytesS (s : St) : List UInt8 × Int := if s.down = true then ([], 8) else (s.safe ++ s.loose, 0)

variable {W : World} {g h : Nat} {s t : St} {w : World} {N : Nat}

theorem i_add (i : Inv2 W g h s t w) (hN : Bd N s) (bv : Value) (bs : List UInt8) (hb : Reads W 1 bv bs.length (bs.map B8)) (hl : bs.length ≤ 1000000) :
    Calls Try.prog 10 #[.pointer (some ⟨g, 0, none⟩), bv] w fun e w' => e = .returned (.int .i64 (addS s bs).1) ∧ Inv2 W g h (addS s bs).2 t w' := by
  obtain ⟨S, sv, lv, hF, hR, hn, hl', hbw⟩ := i
  exact (go_add _ g S sv lv s w hF hN bv bs (arg_reads hb hbw (fun k e => (hF.from_ k e).1) hbw.size) hl).mono fun e w' ⟨x, y⟩ => ⟨x, Inv2.go hF hR hn hl' hbw y⟩
theorem i_swap (i : Inv2 W g h s t w) (hN : Bd N s) (bv : Value) (bs : List UInt8) (hb : Reads W 1 bv bs.length (bs.map B8)) (hl : bs.length ≤ 1000000) :
    Calls Try.prog 16 #[.pointer (some ⟨g, 0, none⟩), bv] w fun e w' => e = .returned (.int .i64 (swapS s bs).1) ∧ Inv2 W g h (swapS s bs).2 t w' := by
  obtain ⟨S, sv, lv, hF, hR, hn, hl', hbw⟩ := i
  exact (go_swap _ g S sv lv s w hF hN bv bs (arg_reads hb hbw (fun k e => (hF.from_ k e).1) hbw.size) hl).mono fun e w' ⟨x, y⟩ => ⟨x, Inv2.go hF hR hn hl' hbw y⟩
theorem i_sync (i : Inv2 W g h s t w) (hN : Bd N s) : Calls Try.prog 11 #[.pointer (some ⟨g, 0, none⟩)] w fun e w' => e = .returned (.int .i64 (syncS s).1) ∧ Inv2 W g h (syncS s).2 t w' := by
  obtain ⟨S, sv, lv, hF, hR, hn, hl', hbw⟩ := i
  exact (go_sync _ g S sv lv s w hF hN).mono fun e w' ⟨x, y⟩ => ⟨x, Inv2.go hF hR hn hl' hbw y⟩
theorem i_tear (i : Inv2 W g h s t w) (n : Int) : Calls Try.prog 21 #[.pointer (some ⟨g, 0, none⟩), .int .i64 n] w fun e w' => e = .returned (.tuple #[]) ∧ Inv2 W g h (tearS s n) t w' := by
  obtain ⟨S, sv, lv, hF, hR, hn, hl', hbw⟩ := i
  exact (tear_any _ g S sv lv s n w hF).mono fun e w' ⟨x, y⟩ => ⟨x, Inv2.go hF hR hn hl' hbw y⟩
theorem i_fall (i : Inv2 W g h s t w) (hN : Bd N s) (r c k : Int) (hk : k ≤ 9223372036854775807) : Calls Try.prog 14 #[.pointer (some ⟨g, 0, none⟩), .agg #[.int .i64 r, .int .i64 c, .int .i64 k]] w fun e w' => e = .returned (.tuple #[]) ∧ Inv2 W g h (fallS s r c k) t w' := by
  obtain ⟨S, sv, lv, hF, hR, hn, hl', hbw⟩ := i
  have := hN.len; have := hN.small
  exact (fall_any _ g S sv lv s r c k w hF (by omega) hk).mono fun e w' ⟨x, y⟩ => ⟨x, Inv2.go hF hR hn hl' hbw y⟩
theorem i_bytes (i : Inv2 W g h s t w) (hN : Bd N s) : Calls Try.prog 15 #[.pointer (some ⟨g, 0, none⟩)] w fun e w' => ∃ v, e = .returned (.tuple #[v, .int .i64 (bytesS s).2]) ∧ Reads w' 1 v (bytesS s).1.length ((bytesS s).1.map B8) ∧ Inv2 W g h s t w' := by
  have i0 := i
  obtain ⟨S, sv, lv, hF, hR, hn, hl', hbw⟩ := i
  have := hN.len; have := hN.small
  unfold bytesS
  by_cases hd : s.down = true
  · rw [if_pos hd]
    have h6 := hF.cells.2.2.2.2.2.2
    rw [hd] at h6
    exact (bytes_down g w h6).mono fun e w' ⟨x, y⟩ => ⟨_, x, Reads.nil _ _, y ▸ i0⟩
  · rw [if_neg hd]
    exact (bytes_up _ g S sv lv s w hF (by simpa using hd) (by omega)).mono fun e w' ⟨v, x, y, z⟩ => ⟨v, x, y, i0.quiet z⟩
theorem i_down (i : Inv2 W g h s t w) : Calls Try.prog 25 #[.pointer (some ⟨g, 0, none⟩)] w fun e w' => e = .returned (.bool s.down) ∧ w = w' := by
  obtain ⟨S, sv, lv, hF, hR, hn, hl', hbw⟩ := i
  exact down_any g s.down w hF.cells.2.2.2.2.2.2
theorem i_loose (i : Inv2 W g h s t w) : Calls Try.prog 13 #[.pointer (some ⟨g, 0, none⟩)] w fun e w' => e = .returned (.int .i64 (s.loose.length : Nat)) ∧ w = w' := by
  obtain ⟨S, sv, lv, hF, hR, hn, hl', hbw⟩ := i
  exact loose_any _ g S sv lv s w hF

theorem j_add (i : Inv2 W g h s t w) (hN : Bd N t) (bs : List UInt8) (hl : bs.length ≤ 1000000) :
    Calls Try.prog 18 #[.pointer (some ⟨h, 0, none⟩), .string ⟨bs.toArray⟩] w fun e w' => e = .returned (.int .i64 (addS t bs).1) ∧ Inv2 W g h s (addS t bs).2 w' := by
  obtain ⟨S, sv, lv, hF, hR, hn, hl', hbw⟩ := i
  exact (doc_add h t w hR hN bs hl).mono fun e w' ⟨x, y⟩ => ⟨x, Inv2.doc hF hn hl' hbw y⟩
theorem j_swap (i : Inv2 W g h s t w) (hN : Bd N t) (bs : List UInt8) :
    Calls Try.prog 20 #[.pointer (some ⟨h, 0, none⟩), .string ⟨bs.toArray⟩] w fun e w' => e = .returned (.int .i64 (swapS t bs).1) ∧ Inv2 W g h s (swapS t bs).2 w' := by
  obtain ⟨S, sv, lv, hF, hR, hn, hl', hbw⟩ := i
  exact (doc_swap h t w hR hN bs).mono fun e w' ⟨x, y⟩ => ⟨x, Inv2.doc hF hn hl' hbw y⟩
theorem j_sync (i : Inv2 W g h s t w) (hN : Bd N t) : Calls Try.prog 19 #[.pointer (some ⟨h, 0, none⟩)] w fun e w' => e = .returned (.int .i64 (syncS t).1) ∧ Inv2 W g h s (syncS t).2 w' := by
  obtain ⟨S, sv, lv, hF, hR, hn, hl', hbw⟩ := i
  exact (doc_sync h t w hR hN).mono fun e w' ⟨x, y⟩ => ⟨x, Inv2.doc hF hn hl' hbw y⟩
theorem j_tear (i : Inv2 W g h s t w) (n : Int) : Calls Try.prog 22 #[.pointer (some ⟨h, 0, none⟩), .int .i64 n] w fun e w' => e = .returned (.tuple #[]) ∧ Inv2 W g h s (tearS t n) w' := by
  obtain ⟨S, sv, lv, hF, hR, hn, hl', hbw⟩ := i
  exact (doc_tear h t w hR n).mono fun e w' ⟨x, y⟩ => ⟨x, Inv2.doc hF hn hl' hbw y⟩
theorem j_fall (i : Inv2 W g h s t w) (hN : Bd N t) (r c k : Int) : Calls Try.prog 23 #[.pointer (some ⟨h, 0, none⟩), .agg #[.int .i64 r, .int .i64 c, .int .i64 k]] w fun e w' => e = .returned (.tuple #[]) ∧ Inv2 W g h s (fallS t r c k) w' := by
  obtain ⟨S, sv, lv, hF, hR, hn, hl', hbw⟩ := i
  exact (doc_fall h t w hR hN r c k).mono fun e w' ⟨x, y⟩ => ⟨x, Inv2.doc hF hn hl' hbw y⟩
theorem j_bytes (i : Inv2 W g h s t w) (hN : Bd N t) : Calls Try.prog 24 #[.pointer (some ⟨h, 0, none⟩)] w fun e w' => e = .returned (.tuple #[.string ⟨(bytesS t).1.toArray⟩, .int .i64 (bytesS t).2]) ∧ Stir (fun _ => False) w w' := by
  obtain ⟨S, sv, lv, hF, hR, hn, hl', hbw⟩ := i
  have hz := hN.len; have := hN.small
  unfold bytesS
  have k := hR
  unfold refc at k
  by_cases hd : t.down = true
  · rw [if_pos hd]
    rw [hd] at k
    exact raw_bytes_down h w _ _ _ _ k
  · rw [if_neg hd]
    have hd' : t.down = false := by simpa using hd
    rw [hd'] at k
    refine (raw_bytes_up h w _ _ _ _ k (by simp only [ba_size]; omega)).mono fun e w' ⟨x, y⟩ => ⟨?_, y⟩
    rw [ba_append] at x; exact x
theorem j_cells (i : Inv2 W g h s t w) : w.cell? ⟨h, 4, none⟩ = some (.bool t.down) ∧ w.cell? ⟨h, 1, none⟩ = some (.string ⟨t.loose.toArray⟩) := by
  obtain ⟨S, sv, lv, hF, hR, hn, hl', hbw⟩ := i
  unfold refc at hR
  exact ⟨hR.cells.2.2.2.2, hR.cells.2.1⟩

/-! ### What the bounds become -/
theorem bd_add (hN : Bd N s) (bs : List UInt8) (hl : bs.length ≤ 300) (hs : N + 300 ≤ 1000000) : Bd (N + 300) (addS s bs).2 := by
  obtain ⟨h1, h2, h3, h4, h5⟩ := hN
  unfold addS
  split
  · exact ⟨by dsimp only; omega, h2, by dsimp only; omega, h4, hs⟩
  · split
    · exact ⟨by dsimp only; omega, h2, by dsimp only; omega, h4, hs⟩
    · split
      · exact ⟨by dsimp only; omega, by dsimp only; omega, by dsimp only; omega, h4, hs⟩
      · exact ⟨by dsimp only; rw [List.length_append]; omega, by dsimp only; omega, by dsimp only; omega, h4, hs⟩
theorem bd_sync (hN : Bd N s) (hs : N + 300 ≤ 1000000) : Bd (N + 300) (syncS s).2 := by
  obtain ⟨h1, h2, h3, h4, h5⟩ := hN
  unfold syncS
  split
  · exact ⟨by dsimp only; omega, h2, by dsimp only; omega, h4, hs⟩
  · split
    · exact ⟨by dsimp only; omega, by dsimp only; omega, by dsimp only; omega, h4, hs⟩
    · exact ⟨by dsimp only; rw [List.length_append, List.length_nil]; omega, by dsimp only; omega, by dsimp only; omega, h4, hs⟩
theorem bd_swap (hN : Bd N s) (bs : List UInt8) (hl : bs.length ≤ 300) (hs : N + 300 ≤ 1000000) : Bd (N + 300) (swapS s bs).2 := by
  obtain ⟨h1, h2, h3, h4, h5⟩ := hN
  unfold swapS
  split
  · exact ⟨by dsimp only; omega, h2, by dsimp only; omega, h4, hs⟩
  · split
    · exact ⟨by dsimp only; omega, h2, by dsimp only; omega, h4, hs⟩
    · split
      · exact ⟨by dsimp only; omega, by dsimp only; omega, by dsimp only; omega, h4, hs⟩
      · exact ⟨by dsimp only; rw [List.length_nil]; omega, by dsimp only; omega, by dsimp only; omega, h4, hs⟩
theorem bd_tear (hN : Bd N s) (n : Int) (hn : n ≤ 9223372036854775807) (hs : N + 300 ≤ 1000000) : Bd (N + 300) (tearS s n) := by
  obtain ⟨h1, h2, h3, h4, h5⟩ := hN
  exact ⟨by dsimp only [tearS]; omega, by dsimp only [tearS]; omega, by dsimp only [tearS]; omega, hn, hs⟩
theorem bd_fall (hN : Bd N s) (r c k : Int) (hc : c ≤ 9223372036854775807) (hs : N + 300 ≤ 1000000) : Bd (N + 300) (fallS s r c k) := by
  obtain ⟨h1, h2, h3, h4, h5⟩ := hN
  have hk := kept_le s.loose.length k
  exact ⟨by dsimp only [fallS]; rw [List.length_append, List.length_take, List.length_nil]; omega, by dsimp only [fallS]; omega, by dsimp only [fallS]; omega, hc, hs⟩
theorem bd_more (hN : Bd N s) (hs : N + 300 ≤ 1000000) : Bd (N + 300) s := by
  obtain ⟨h1, h2, h3, h4, h5⟩ := hN
  exact ⟨by omega, h2, by omega, h4, hs⟩

end Go.Proofs.Ythllhpjjoifnmaa
