/- Words and laws of no program, for a range over a function: what an iterator over a list of elements hands on, and what a loop's relation abides. No conditions. -/
import Derived.RangeFuncNested
import Derived.RangeFuncBound
import Derived.RangeFuncCalls
import Derived.RangeFuncLeaves
import Derived.RangeFuncBox
import Derived.Shelf.Abstract
import Derived.Shelf.RegionOpen
import Derived.LoopNIn
import Derived.LoopIn
import Derived.Deep.RegionWith
import Derived.Test.YtnlakdpfkgjdaaaDoorCavA
namespace Go.Cav
open Go Go.RowKit

theorem add_block (ad : Addr) (k : Nat) : (ad.add k).block = ad.block := by unfold Addr.add; split <;> rfl

/-- The blocks that a loop's body may turn: some old ones, and all that are made from block B on. -/
def Mine (B : Nat) (T : Nat → Prop) : Nat → Prop := fun k => T k ∨ B ≤ k

/-- WHAT AN ITERATOR OVER zs IS: at a body that turns blocks of 'T' alone it hands all of zs over, in order, or a beginning. -/
abbrev Iter {α : Type} (F : Fence) (n : Nat) (P : Program) (gf : Nat) (lb : Array Value) (encs : α → Array Value) (T : Nat → Prop) (zs : List α) (w : World) : Prop :=
  SeqStopsK F n P gf lb encs (Stir T) (fun ys => ys = zs) (fun pre => pre <+: zs) zs.length w

theorem stirK_t {T : Nat → Prop} {A B C : World} (h : Stir T A B) (k : Stir T B C) : Stir T A C := h.trans k (fun _ _ e => e)
theorem stir_grownBy {T : Nat → Prop} {W W' : World} {row : Option Nat} (hg : W.grownBy W' row) (hr : ∀ k, row = some k → T k) : Stir T W W' := (Stir.refl T W).grown hg (fun k e _ => hr k e)
theorem stirK_b {T : Nat → Prop} {w : World} (hT : ∀ k, w.heap.size ≤ k → T k) (W : World) (l : Nat) (o o' : Obj) (hl : w.heap.size ≤ l) (_ : W.heap[l]? = some o) (_ : o.isCells = false) (_ : o.isWalk = false) : Stir T W (W.putObj l o') :=
  stir_grownBy (grownBy_putObj' W l o') (fun k e => by cases e; exact hT _ hl)
theorem ownFrom_stir {β : Type} {B : Nat} {T : Nat → Prop} (w : World) (hT : ∀ k, B ≤ k → T k) : OwnFrom (β := β) B (fun _ W => Stir T w W) :=
  fun _ _ _ _ hs hg hr => hs.grown hg (fun k e _ => hT k (hr k e).1)
theorem ownFrom_pure' {β : Type} {B : Nat} (p : β → Prop) : OwnFrom (β := β) B (fun s _ => p s) := fun _ _ _ _ hs _ _ => hs
theorem ownFrom_no {B : Nat} {β : Type} : OwnFrom (β := β) B (fun _ _ => False) := fun _ _ _ _ hs _ _ => hs

/-- An owned row, or what reads as a list, abides the turn of a block that is no cells. -/
theorem reads_turn {W W' : World} {row : Option Nat} {size : Nat} {v : Value} {n : Nat} {xs : List Value} (h : Reads W size v n xs) (hg : W.grownBy W' row) (hr : ∀ r, row = some r → ∃ o : Obj, W.heap[r]? = some o ∧ o.isCells = false) : Reads W' size v n xs := by
  refine ⟨h.1, ?_⟩
  rcases h.2 with hl | ⟨a, c, rfl, hc⟩
  · exact .inl hl
  · exact .inr ⟨a, c, rfl, fun j u hu => cell_kept (hc j u hu) hg hr⟩

/-- The block for the rounds' deferred calls, at the function's end. -/
theorem stir_end {T : Nat → Prop} {w W : World} (h : Stir T w W) {D : Nat} (hD : w.heap.size ≤ D) (o' : Obj) : Stir T w (W.putObj D o') :=
  h.grown (grownBy_putObj' W D o') (fun k e hk => by cases e; omega)

theorem reads_putObj {W : World} {size : Nat} {v : Value} {n : Nat} {xs : List Value} (h : Reads W size v n xs) {l : Nat} {o : Obj} (o' : Obj) (hl : W.heap[l]? = some o) (ho : o.isCells = false) : Reads (W.putObj l o') size v n xs :=
  reads_turn h (grownBy_putObj' W l o') (fun r e => by cases e; exact ⟨o, hl, ho⟩)

/-- 'out = append(out, ..)' in a loop's body, out a boxed variable: behind the store. -/
theorem Boxed.app {W W0 w1 : World} {B t base : Nat} {e : TypeId} {size : Nat} {v v' : Value} {k m : Nat} {xs ys : List Value} {T : Nat → Prop}
    (hv : Boxed W B t v) (hte : t ≠ e) (hrow : W.ownsRow base e size v k xs) (h0 : KeepsOthers W W0) (hs : Stir T W W0) (hv0 : Boxed W0 B t v) (hrow0 : W0.ownsRow base e size v k xs) (hTB : T B) (hTb : ∀ i, base ≤ i → T i)
    (hown' : w1.ownsRow base e size v' m ys) (hgrow : W0.grownBy w1 v.ownBlock) :
    Boxed w1 B t v ∧ Boxed (w1.setCell ⟨B, 0, none⟩ v') B t v' ∧ (w1.setCell ⟨B, 0, none⟩ v').ownsRow base e size v' m ys ∧ KeepsOthers W (w1.setCell ⟨B, 0, none⟩ v') ∧ Stir T W (w1.setCell ⟨B, 0, none⟩ v') := by
  have hv1 : Boxed w1 B t v := hv0.kept hgrow (hv.not_row hte hrow)
  refine ⟨hv1, hv1.set v', hown'.kept (grownBy_setCell' w1 B v') (.inr (hv1.not_row hte hown').symm), ?_, ?_⟩
  · refine ((h0.trans (KeepsOthers.of_grownBy hgrow fun j o ej hj => ?_))).trans (KeepsOthers.setCell _ _ _)
    rcases hrow0.2 with ⟨rfl, _⟩ | ⟨g, cap, cur, rfl, _, hgb, _⟩
    · simp [Value.ownBlock] at ej
    · obtain rfl : g = j := by simpa [Value.ownBlock] using ej
      rw [hgb] at hj; cases hj; rfl
  · refine (hs.grown hgrow fun j ej _ => hTb j ?_).setCell (p := ⟨B, 0, none⟩) (fun _ => hTB) v'
    exact (hrow0.lt j ej).1

end Go.Cav
