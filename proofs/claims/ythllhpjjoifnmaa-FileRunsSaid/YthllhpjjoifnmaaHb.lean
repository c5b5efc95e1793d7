/- What the document's file does as it falls. Conditions: the bounds that the contract names. -/
import Derived.Test.YthllhpjjoifnmaaHa
namespace Go.Proofs.Ythllhpjjoifnmaa
open Go.RowKit Go.Cav

theorem box_cells (w : World) (r c k : Int) : (w.alloc (.cells #[.int .i64 r, .int .i64 c, .int .i64 k] 27)).cell? ⟨w.heap.size, 0, none⟩ = some (.int .i64 r) ∧ (w.alloc (.cells #[.int .i64 r, .int .i64 c, .int .i64 k] 27)).cell? ⟨w.heap.size, 1, none⟩ = some (.int .i64 c) ∧
    (w.alloc (.cells #[.int .i64 r, .int .i64 c, .int .i64 k] 27)).cell? ⟨w.heap.size, 2, none⟩ = some (.int .i64 k) := by
  have := heap_alloc_new w (.cells #[.int .i64 r, .int .i64 c, .int .i64 k] 27)
  refine ⟨?_, ?_, ?_⟩ <;> (unfold World.cell?; rw [this]; rfl)

set_option maxHeartbeats 1600000 in
theorem raw_fall (h : Nat) (w : World) (S L E : ByteArray) (room left : Int) (off : Bool) (r c k : Int) (K : Nat) (j : RAt w h (rc S L room left off))
    (hz : S.size + E.size ≤ 9223372036854775807) (hL : L.size ≤ 100000000000000) (hK : (if 0 < k then k else 0).tmod ((L.size : Int) + 1) = (K : Int)) (hK1 : K ≤ L.size) (hE : L.extract 0 K = E) :
    Calls Try.prog 23 #[.pointer (some ⟨h, 0, none⟩), .agg #[.int .i64 r, .int .i64 c, .int .i64 k]] w fun e w' => e = .returned (.tuple #[]) ∧ RStep h w (rc (S ++ E) ⟨#[]⟩ r (if 0 < c then c else 0) false) w' := by
  have hlt := j.lt
  have hne : ¬ w.heap.size = h := by omega
  have hne' : ¬ h = w.heap.size := by omega
  have j1 : RStep h w (rc S L room left off) (w.alloc (.cells #[.int .i64 r, .int .i64 c, .int .i64 k] 27)) := ⟨j.touch ((Stir.refl (fun _ => False) w).alloc _) (fun e => e), (Stir.refl _ w).alloc _⟩
  obtain ⟨b0, b1, b2⟩ := box_cells w r c k
  generalize h1 : w.alloc (.cells #[.int .i64 r, .int .i64 c, .int .i64 k] 27) = w1 at j1 b0 b1 b2
  obtain ⟨c0, c1, c2, c3, c4⟩ := j1.1.cells
  have f0 := j1.1.free 0
  have k1 := (j1.set 0 (.string (S ++ E)) (c' := rc (S ++ E) L room left off) rfl).drew
  have n0 : (w1.setCell ⟨h, 0, none⟩ (.string (S ++ E))).drew.cell? ⟨w.heap.size, 0, none⟩ = some (.int .i64 r) := (((Stir.refl (fun k => k = h) w1).setCell (fun _ => rfl) _).drew).cell b0 hne
  have n1 : (w1.setCell ⟨h, 0, none⟩ (.string (S ++ E))).drew.cell? ⟨w.heap.size, 1, none⟩ = some (.int .i64 c) := (((Stir.refl (fun k => k = h) w1).setCell (fun _ => rfl) _).drew).cell b1 hne
  have hw1 : IntKind.i64.wrap ((L.size : Int) + 1) = (L.size : Int) + 1 := by rw [IntKind.wrap_i64]; omega
  have hw2 : ¬ ((L.size : Int) + 1 = 0) := by omega
  have hw5 : (K : Int) ≤ (L.size : Int) := by omega
  clear j j1
  go_enter Try.func23, Try.ntmps23
  go_wp2
  clear h1
  go_region
  all_goals (
    clear hK hw1 hw2 hw5 hE
    generalize (w1.setCell ⟨h, 0, none⟩ (.string (S ++ E))).drew = w2 at k1 n0 n1 ⊢
    obtain ⟨_, d1, d2, d3, d4⟩ := k1.1.cells
    have f1 := k1.1.free 1
    have f2 := k1.1.free 2
    have f3 := k1.1.free 3
    have f4 := k1.1.free 4
    have kk := Lib.hid ((((k1.set 1 (.string ⟨#[]⟩) (c' := rc (S ++ E) ⟨#[]⟩ room left off) rfl).set 2 (.int .i64 r) (c' := rc (S ++ E) ⟨#[]⟩ r left off) rfl).set 3 (.int .i64 (if 0 < c then c else 0)) (c' := rc (S ++ E) ⟨#[]⟩ r (if 0 < c then c else 0) off) rfl).set 4 (.bool false) (c' := rc (S ++ E) ⟨#[]⟩ r (if 0 < c then c else 0) false) rfl)
    have m0 : (w2.setCell ⟨h, 1, none⟩ (.string ⟨#[]⟩)).cell? ⟨w.heap.size, 0, none⟩ = some (.int .i64 r) := ((Stir.refl (fun k => k = h) w2).setCell (fun _ => rfl) _).cell n0 hne
    have m1 : ((w2.setCell ⟨h, 1, none⟩ (.string ⟨#[]⟩)).setCell ⟨h, 2, none⟩ (.int .i64 r)).cell? ⟨w.heap.size, 1, none⟩ = some (.int .i64 c) := (((Stir.refl (fun k => k = h) w2).setCell (fun _ => rfl) _).setCell (fun _ => rfl) _).cell n1 hne
    clear k1 b0 b1 b2 c0 c1 c2 c3 c4 f0 n0 n1)
  all_goals go_wp2
  all_goals go_end0
  all_goals (
    have q := kk.out
    refine ⟨rfl, ?_⟩
    first
      | (rw [if_pos (by omega)] at q; exact q)
      | (rw [if_neg (by omega)] at q; exact q))

end Go.Proofs.Ythllhpjjoifnmaa
