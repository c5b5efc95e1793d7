/- Steps of the fenced walk at rows of cells: a load and a store of a whole row. No conditions. -/
import Derived.Test.YtnlakdpfkgjdaaaDoorCavB
import Derived.Laws.Rows
import Derived.Laws.Tables
namespace Go.Cav
open Go Go.RowKit
variable {P : Program}

theorem wpListIn_store_row {F : Fence} {nf : Nat} {ops : Array Oper} {rest : List Oper} {o : Oper} {a : Act} {w : World} {Q : Exit → Act → World → Prop} (hgd : o.guard = none) (ty : TypeId) (x y : Operand) (ho : o.op = .store ty x y)
    (g : Nat) (cells : Array Value) (hx : a.eval x = .pointer (some ⟨g, 0, none⟩)) (hy : a.eval y = .agg cells)
    (t : TypeId) (old : Array Value) (hg : w.heap[g]? = some (.cells old t (0, 0))) (hi : (P.info? ty).map (·.size) = some cells.size)
    (hold : old.size = cells.size) (h1 : cells.all (·.oneCell') = true)
    (h : wpListIn F nf P ops Q rest (a.put o.dst undef) (w.setRow g cells)) : wpListIn F nf P ops Q (o :: rest) a w := by
  refine wpListIn_plain hgd fun K hK => ?_
  unfold Oper.wpIn
  refine ⟨?_, ?_⟩
  · simp [Oper.about, ho]
  · rw [Oper.semAt_plain F _ _ (by rw [ho]; intro c hc'; cases hc')]
    simp only [execOp, ho, hx, hy, Instr.storeAt, Instr.sureAddr, Sem.run_bind, Sem.run_pure, Result.andThen_ok, run_storeVar_row w g t ty old cells hg hi hold h1]
    exact hK _ _ h

theorem wpListIn_load_row {F : Fence} {nf : Nat} {ops : Array Oper} {rest : List Oper} {o : Oper} {a : Act} {w : World} {Q : Exit → Act → World → Prop} (hgd : o.guard = none) (ty : TypeId) (x : Operand) (ho : o.op = .load ty x)
    (g : Nat) (hx : a.eval x = .pointer (some ⟨g, 0, none⟩)) (t : TypeId) (cs : Array Value) (fr : Nat × Nat) (d : TypeDesc) (hg : w.heap[g]? = some (.cells cs t fr))
    (hu : P.underlying ty = some d) (hd : (match d with | .struct _ | .array _ _ => true | _ => false) = true) (hi : (P.info? ty).map (·.size) = some cs.size)
    (h : wpListIn F nf P ops Q rest (a.put o.dst (.agg cs)) w) : wpListIn F nf P ops Q (o :: rest) a w := by
  refine wpListIn_plain hgd fun K hK => ?_
  unfold Oper.wpIn
  refine ⟨?_, ?_⟩
  · simp [Oper.about, ho]
  · rw [Oper.semAt_plain F _ _ (by rw [ho]; intro c hc'; cases hc')]
    simp only [execOp, ho, hx, Instr.loadAt, Instr.sureAddr, Sem.run_bind, Sem.run_pure, Result.andThen_ok, run_loadVar_row w g t ty cs fr d hg hu hd hi]
    exact hK _ _ h

theorem wpListIn_build {F : Fence} {nf : Nat} {ops : Array Oper} {rest : List Oper} {o : Oper} {a : Act} {w : World} {Q : Exit → Act → World → Prop} (hgd : o.guard = none) (t : TypeId) (parts : Array (Nat × Operand)) (ho : o.op = .build t parts)
    (cells : Array Value) (hf : P.built t (parts.map fun (i, x) => (i, a.eval x)).toList = some cells)
    (h : wpListIn F nf P ops Q rest (a.put o.dst (.agg cells)) w) : wpListIn F nf P ops Q (o :: rest) a w := by
  refine wpListIn_plain hgd fun K hK => ?_
  unfold Oper.wpIn
  refine ⟨?_, ?_⟩
  · simp [Oper.about, ho]
  · rw [Oper.semAt_plain F _ _ (by rw [ho]; intro c hc'; cases hc')]
    unfold execOp
    simp only [ho, Sem.run_bind, run_build w t _ cells hf, Result.andThen_ok]
    exact hK _ _ h

theorem grownBy_setRow (W : World) (g : Nat) (new : Array Value) : W.grownBy (W.setRow g new) (some g) :=
  ⟨rfl, rfl, rfl, by simp [World.setRow], fun k _ hk => setRow_other W g k new (fun e => hk (by rw [e]))⟩
theorem KeepsOthers.setRow (W : World) (g : Nat) (new old : Array Value) (t : TypeId) (fr : Nat × Nat) (h : W.heap[g]? = some (.cells old t fr)) : KeepsOthers W (W.setRow g new) :=
  KeepsOthers.of_grownBy (grownBy_setRow W g new) (fun j o e hj => by cases e; rw [h] at hj; cases hj; rfl)
theorem Stir.setRow {S : Nat → Prop} {a b : World} (h : Stir S a b) {g : Nat} (hg : g < a.heap.size → S g) (new : Array Value) : Stir S a (b.setRow g new) :=
  h.grown (grownBy_setRow b g new) (fun k e hk => by cases e; exact hg hk)
end Go.Cav
