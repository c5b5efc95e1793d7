/- Words and laws of no program, for a range over a function whose iterator has boxes of its own: a relation that says of cells alone that they stay. No conditions. -/
import Derived.Test.YtnlakdpfkgjdaaaDoorCavB
namespace Go.Cav
open Go Go.RowKit

/-- Of the old blocks that hold cells, and of all below B, only those in T may have changed. -/
structure StirC (B : Nat) (T : Nat → Prop) (w w' : World) : Prop where
  os : w'.os = w.os
  tape : w'.tape = w.tape
  output : w'.output = w.output
  size : w.heap.size ≤ w'.heap.size
  block : ∀ i o, w.heap[i]? = some o → o.isCells = true → ¬ T i → w'.heap[i]? = some o
  old : ∀ i, i < B → i < w.heap.size → ¬ T i → w'.heap[i]? = w.heap[i]?

variable {B : Nat} {T : Nat → Prop}
theorem StirC.refl (B : Nat) (T : Nat → Prop) (w : World) : StirC B T w w := ⟨rfl, rfl, rfl, Nat.le_refl _, fun _ _ h _ _ => h, fun _ _ _ _ => rfl⟩
theorem StirC.trans {a b c : World} (h : StirC B T a b) (k : StirC B T b c) : StirC B T a c :=
  ⟨k.os.trans h.os, k.tape.trans h.tape, k.output.trans h.output, Nat.le_trans h.size k.size, fun i o ho hc hn => k.block i o (h.block i o ho hc hn) hc hn,
   fun i hi hl hn => (k.old i hi (Nat.lt_of_lt_of_le hl h.size) hn).trans (h.old i hi hl hn)⟩
theorem lt_of_heap {w : World} {i : Nat} {o : Obj} (h : w.heap[i]? = some o) : i < w.heap.size := by
  rcases Nat.lt_or_ge i w.heap.size with e | e
  · exact e
  · rw [Array.getElem?_eq_none e] at h; cases h
theorem StirC.of_stir {S : Nat → Prop} {a b : World} (h : Stir S a b) (hs : ∀ i, S i → T i) : StirC B T a b :=
  ⟨h.os, h.tape, h.output, h.size, fun i _ ho _ hn => (h.block i (lt_of_heap ho) (fun e => hn (hs i e))).trans ho, fun i _ hl hn => h.block i hl (fun e => hn (hs i e))⟩
theorem StirC.alloc {a b : World} (h : StirC B T a b) (o : Obj) : StirC B T a (b.alloc o) :=
  h.trans (StirC.of_stir ((Stir.refl (fun _ => False) b).alloc o) (fun _ e => e.elim))
theorem StirC.drew {a b : World} (h : StirC B T a b) : StirC B T a b.drew := ⟨h.os, h.tape, h.output, h.size, h.block, h.old⟩
theorem StirC.setCell {a b : World} (h : StirC B T a b) {p : Addr} (hp : T p.block) (u : Value) : StirC B T a (b.setCell p u) :=
  h.trans (StirC.of_stir ((Stir.refl (fun k => k = p.block) b).setCell (fun _ => rfl) u) (fun _ e => e ▸ hp))
theorem StirC.cell {a b : World} (h : StirC B T a b) {p : Addr} {v : Value} (hc : a.cell? p = some v) (hn : ¬ T p.block) : b.cell? p = some v := by
  have hh : ∃ o, a.heap[p.block]? = some o ∧ o.isCells = true := by
    unfold World.cell? at hc
    split at hc
    · rename_i he
      exact ⟨_, he, rfl⟩
    · cases hc
  obtain ⟨o, ho, hoc⟩ := hh
  exact (World.cell?_of_block ((h.block _ o ho hoc hn).trans ho.symm)).trans hc
theorem stirC_t {a b c : World} (h : StirC B T a b) (k : StirC B T b c) : StirC B T a c := h.trans k
theorem StirC.grown {a b c : World} {row : Option Nat} (h : StirC B T a b) (hg : b.grownBy c row) (hr : ∀ r, row = some r → B ≤ r ∧ ∃ o : Obj, b.heap[r]? = some o ∧ o.isCells = false) : StirC B T a c :=
  h.trans ⟨hg.os, hg.tape, hg.output, hg.size, fun i q hq hqc _ => by
    by_cases hi : some i = row
    · obtain ⟨_, o, ho, hc⟩ := hr i hi.symm
      rw [hq] at ho; cases ho; rw [hc] at hqc; cases hqc
    · exact (hg.block i (lt_of_heap hq) hi).trans hq,
   fun i hi hl _ => hg.block i hl (fun e => by have := (hr i e.symm).1; omega)⟩
theorem stirC_b (W : World) (l : Nat) (o o' : Obj) (hl : B ≤ l) (ho : W.heap[l]? = some o) (hc : o.isCells = false) : StirC B T W (W.putObj l o') :=
  (StirC.refl B T W).grown (grownBy_putObj' W l o') (fun r e => by cases e; exact ⟨hl, o, ho, hc⟩)
theorem ownFrom_stirC {β : Type} {B' : Nat} (w : World) (hB : B ≤ B') : OwnFrom (β := β) B' (fun _ W => StirC B T w W) :=
  fun _ _ _ _ hs hg hr => hs.grown hg (fun r e => ⟨Nat.le_trans hB (hr r e).1, (hr r e).2⟩)
/-- .. what is old stays, all of it -/
theorem StirC.below {a b c : World} (h : StirC B T b c) (h0 : Below B a b) (hB : B ≤ b.heap.size) (hT : ∀ k, T k → B ≤ k) : Below B a c :=
  h0.trans ⟨h.os, h.tape, h.output, h.size, fun i hi => h.old i hi (by omega) (fun e => by have := hT i e; omega)⟩

/-- WHAT AN ITERATOR OVER zs IS, at a body that keeps all cells but those of T. -/
abbrev IterC {α : Type} (F : Fence) (n : Nat) (P : Program) (gf : Nat) (lb : Array Value) (encs : α → Array Value) (B : Nat) (T : Nat → Prop) (zs : List α) (w : World) : Prop :=
  SeqStopsK F n P gf lb encs (StirC B T) (fun ys => ys = zs) (fun pre => pre <+: zs) zs.length w

/-- A slice value reads as a list of cells; where it is empty its capacity may be any. -/
def ReadsA (w : World) (size : Nat) (v : Value) (n : Nat) (xs : List Value) : Prop :=
  xs.length = n * size ∧ ((∃ c, v = .slice none 0 c ∧ n = 0) ∨ ∃ a c, v = .slice (some a) n c ∧ ∀ j u, xs[j]? = some u → w.cell? (a.add j) = some u)
theorem ReadsA.touch {S : Nat → Prop} {w w' : World} {size : Nat} {v : Value} {n : Nat} {xs : List Value} (h : ReadsA w size v n xs) (ht : Stir S w w') (hn : ∀ k, v.ownBlock = some k → ¬ S k) : ReadsA w' size v n xs := by
  refine ⟨h.1, ?_⟩
  rcases h.2 with hl | ⟨a, c, rfl, hc⟩
  · exact .inl hl
  · refine .inr ⟨a, c, rfl, fun j u hu => ht.cell (hc j u hu) ?_⟩
    rw [add_block]; exact hn _ rfl
theorem ReadsA.below {w w' : World} {size : Nat} {v : Value} {n : Nat} {xs : List Value} (h : ReadsA w size v n xs) (hb : Below w.heap.size w w') : ReadsA w' size v n xs :=
  h.touch (Stir.of_below hb (fun _ => False)) (fun _ _ e => e)
theorem Reads.any {w : World} {size : Nat} {v : Value} {n : Nat} {xs : List Value} (h : Reads w size v n xs) : ReadsA w size v n xs := by
  refine ⟨h.1, ?_⟩
  rcases h.2 with ⟨rfl, h0⟩ | h
  · exact .inl ⟨0, rfl, h0⟩
  · exact .inr h

end Go.Cav
