/- A step of no program: a struct's load, by a fact on what it answers. No conditions. -/
import Derived.StillTailTactics
import Derived.Laws.Rows
import Derived.Tactics
namespace Go.Cav
open Go
variable {P : Program} {ops : Array Oper} {w : World}
theorem still_load {Q : Act → Prop} {a : Act} {o : Oper} {rest : List Oper} (t : TypeId) (p : Operand) (ad : Addr) (v : Value) (hgd : o.guard = none) (ho : o.op = .load t p) (hv : a.eval p = .pointer (some ad)) (hl : (loadVar t ad).run P w = .ok v w)
    (h : wpStill P ops w Q rest (a.put o.dst v)) : wpStill P ops w Q (o :: rest) a := by
  have e : (execOp a.eval o).run P w = .ok (.value v) w := by
    simp only [execOp, ho, hv]
    have e2 : (Instr.loadAt t (Value.pointer (some ad))).run P w = .ok v w := by
      unfold Instr.loadAt
      simp only [asAddr, Sem.run_bind, Result.andThen]
      exact hl
    simp only [Sem.run_bind, Sem.run_pure, e2, Result.andThen]
  refine wpStill_step (fun K hK => ?_)
  rw [if_pos (by simp [Region.wanted, hgd])]
  unfold Oper.still
  rw [e, Oper.stillUpon_value]
  exact hK _ h
end Go.Cav
