/- How a plan and an act read as arguments. No conditions. -/
import Derived.Test.YthllhpjjoifnmaaCavR
import Derived.Test.YthllhpjjoifnmaaProg
namespace Go.Proofs.Ythllhpjjoifnmaa
open Go.RowKit Go.Cav

structure PlanV where
  room : Int
  crash : Int
  keep : Int
structure ActV where
  what : Int
  b : List UInt8
  n : Int
  plan : PlanV

def ok64 (x : Int) : Prop := -9223372036854775808 ≤ x ∧ x ≤ 9223372036854775807
def rPlan (_ : World) (cs : List Value) (x : PlanV) : Prop := cs = [.int .i64 x.room, .int .i64 x.crash, .int .i64 x.keep] ∧ ok64 x.room ∧ ok64 x.crash ∧ ok64 x.keep
def rAct (w : World) (cs : List Value) (x : ActV) : Prop :=
  ∃ v, cs = [.int .i64 x.what, v, .int .i64 x.n, .int .i64 x.plan.room, .int .i64 x.plan.crash, .int .i64 x.plan.keep] ∧ ok64 x.n ∧ ok64 x.plan.room ∧ ok64 x.plan.crash ∧ ok64 x.plan.keep ∧ rSlice 1 1 rByte w [v] x.b

theorem c3 : Try.prog.cellsOf 3 = 1 := by kernel_rfl
theorem c22 : Try.prog.cellsOf 22 = 1 := by kernel_rfl
theorem c27 : Try.prog.cellsOf 27 = 3 := by kernel_rfl
theorem c43 : Try.prog.cellsOf 43 = 6 := by kernel_rfl

theorem opens_at {P : Program} {t : TypeId} {H : Type} {enc : TypeId × Value → H} {w : World} {fuel : Nat} {cs : List Value} {d : DataW H} {ps : List MemPlace} {fs : Array Field} {α : Type} {R : World → List Value → α → Prop} (ht : P.underlying t = some (.struct fs))
    (h : DataW.trod enc P w 0 (fun _ => true) true fuel t cs = some (d, ps)) (hf : Fits P t d) (i : Nat) (u : TypeId) (off n : Nat) (hi : (fs[i]?).map (fun f => (f.type, f.offset)) = some (u, off)) (hc : P.cellsOf u = n) (ho : Opens P u R) : ∃ x, R w ((cs.drop off).take n) x := by
  obtain ⟨f, hf1, hf2⟩ := Option.map_eq_some_iff.1 hi
  obtain ⟨rfl, rfl⟩ := Prod.mk.inj hf2
  subst hc
  exact opens_field ht h hf i hf1 ho

theorem opens_plan : Opens Try.prog 27 rPlan := by
  intro H enc w fuel cs d ps h hf
  have hl := opens_cells Try.underlying27 h
  rw [c27] at hl
  obtain ⟨x0, h0⟩ := opens_at Try.underlying27 h hf 0 3 0 1 rfl c3 (opens_int Try.underlying3)
  obtain ⟨x1, h1⟩ := opens_at Try.underlying27 h hf 1 3 1 1 rfl c3 (opens_int Try.underlying3)
  obtain ⟨x2, h2⟩ := opens_at Try.underlying27 h hf 2 3 2 1 rfl c3 (opens_int Try.underlying3)
  obtain ⟨a, b, c, rfl⟩ : ∃ a b c, cs = [a, b, c] := by
    match cs, hl with
    | [a, b, c], _ => exact ⟨a, b, c, rfl⟩
  obtain ⟨e0, w0⟩ := h0
  obtain ⟨e1, w1⟩ := h1
  obtain ⟨e2, w2⟩ := h2
  simp at e0 e1 e2
  subst e0; subst e1; subst e2
  exact ⟨⟨x0, x1, x2⟩, rfl, wf_i64 w0, wf_i64 w1, wf_i64 w2⟩

theorem opens_act : Opens Try.prog 43 rAct := by
  intro H enc w fuel cs d ps h hf
  have hl := opens_cells Try.underlying43 h
  rw [c43] at hl
  obtain ⟨x0, h0⟩ := opens_at Try.underlying43 h hf 0 3 0 1 rfl c3 (opens_int Try.underlying3)
  obtain ⟨x1, h1⟩ := opens_at (R := rSlice 1 1 rByte) Try.underlying43 h hf 1 22 1 1 rfl c22 (opens_slice (R := rByte) Try.underlying22 (by kernel_rfl) (by kernel_rfl) (opens_byte Try.underlying5))
  obtain ⟨x2, h2⟩ := opens_at Try.underlying43 h hf 2 3 2 1 rfl c3 (opens_int Try.underlying3)
  obtain ⟨x3, h3⟩ := opens_at Try.underlying43 h hf 3 27 3 3 rfl c27 opens_plan
  obtain ⟨a, b, c, d, e, f, rfl⟩ : ∃ a b c d e f, cs = [a, b, c, d, e, f] := by
    match cs, hl with
    | [a, b, c, d, e, f], _ => exact ⟨a, b, c, d, e, f, rfl⟩
  obtain ⟨e0, w0⟩ := h0
  obtain ⟨e2, w2⟩ := h2
  obtain ⟨e3, w3, w4, w5⟩ := h3
  simp at e0 e2 e3
  subst e0; subst e2
  obtain ⟨rfl, rfl, rfl⟩ := e3
  exact ⟨⟨x0, x1, x2, x3⟩, b, rfl, wf_i64 w2, w3, w4, w5, by simpa using h1⟩

end Go.Proofs.Ythllhpjjoifnmaa
