/- The keys of a command among its words, and a way out with two results. No conditions. -/
import Derived.Test.YtjdpmjpfhcdcfaaCk
import Derived.Great.BuildSlice
namespace Go.Proofs.Ytjdpmjpfhcdcfaa
open Go.RowKit Go.Shelf Go.Cav

def okS (s : SpecV) : Bool := (s.first == 0 || s.first == 1 && (s.step == 1 || s.step == 2)) && decide (0 ≤ s.step) && decide (s.step ≤ 2) && decide (-1 ≤ s.last) && decide (s.last < s.least)
theorem specL_ok : specL.all okS = true := by decide +kernel
def keyCount (s : SpecV) (n : Nat) : Nat := if s.first ≤ 0 then 0 else if s.step = 2 then ((keyTo s n - s.first) / 2 + 1).toNat else (keyTo s n - s.first + 1).toNat
/-- the keys among words -/
def keysL (s : SpecV) (ws : List ByteArray) : List ByteArray := (List.range (keyCount s ws.length)).map fun k => ws.getD (s.first.toNat + k * s.step.toNat) ⟨#[]⟩
theorem keysL_length (s : SpecV) (ws : List ByteArray) : (keysL s ws).length = keyCount s ws.length := by simp [keysL]
theorem keysAre (s : SpecV) (ws : List ByteArray) (hs : s ∈ specL) (hb : ws.length ≤ 1000000000000) (hl : s.least ≤ (ws.length : Int)) : KeysAre s ws (keysL s ws) s.first.toNat s.step.toNat := by
  have hok : okS s = true := List.all_eq_true.1 specL_ok s hs
  simp only [okS, Bool.and_eq_true, Bool.or_eq_true, beq_iff_eq, decide_eq_true_eq] at hok
  obtain ⟨⟨⟨⟨h1, h2⟩, h3⟩, h4⟩, h5⟩ := hok
  have hto : keyTo s ws.length < ws.length := by unfold keyTo; split <;> omega
  have hlo : -1 ≤ keyTo s ws.length := by unfold keyTo; split <;> omega
  refine ⟨by omega, by omega, by omega, by omega, hto, hb, h4, fun k x hx => ?_, fun hf => ?_⟩
  · have hk : k < keyCount s ws.length := by rw [← keysL_length]; exact (List.getElem?_eq_some_iff.1 hx).1
    have hx' : x = ws.getD (s.first.toNat + k * s.step.toNat) ⟨#[]⟩ := by
      unfold keysL at hx
      rw [List.getElem?_map, List.getElem?_range hk] at hx
      exact (Option.some.inj hx).symm
    have hpos : 0 < s.first := by
      rcases Int.lt_or_le 0 s.first with h | h
      · exact h
      · unfold keyCount at hk; rw [if_pos h] at hk; omega
    have hle : ((s.first.toNat + k * s.step.toNat : Nat) : Int) ≤ keyTo s ws.length := by
      unfold keyCount at hk
      rw [if_neg (by omega)] at hk
      by_cases h2' : s.step = 2
      · rw [if_pos h2'] at hk; have e2 : s.step.toNat = 2 := by omega
        rw [e2]; omega
      · have : s.step = 1 := by omega
        rw [if_neg h2'] at hk; have e2 : s.step.toNat = 1 := by omega
        rw [e2]; omega
    refine ⟨by omega, hle, ?_⟩
    rw [hx', List.getD_eq_getElem?_getD, List.getElem?_eq_getElem (by omega)]
    rfl
  · rw [keysL_length]
    unfold keyCount
    rw [if_neg (by omega)]
    by_cases h2' : s.step = 2
    · have e2 : s.step.toNat = 2 := by omega
      rw [if_pos h2', e2]; omega
    · have : s.step = 1 := by omega
      have e2 : s.step.toNat = 1 := by omega
      rw [if_neg h2', e2]; omega

theorem stores_in {F : Fence} {nf : Nat} {ops : Array Oper} {Q : Exit → Act → World → Prop} {a : Act} {w : World} (x : Operand) (s old : SpecV) (b ob : Bool) (g1 g2 : Nat) (hx : a.eval x = .agg (encS s).toArray)
    (h2 : a.eval (.tmp 2) = .pointer (some ⟨g1, 0, none⟩)) (h3 : a.eval (.tmp 3) = .pointer (some ⟨g2, 0, none⟩)) (hr : RowAt w g1 old) (hb : Boxed w g2 4 (.bool ob)) (hne : g1 ≠ g2) (o1 o2 : Oper)
    (e1 : o1.op = .store 26 (.tmp 2) x) (e2 : o2.op = .store 4 (.tmp 3) (.const (.bool b))) (d1 : o1.dst = none) (d2 : o2.dst = none) (f1 : o1.guard = none) (f2 : o2.guard = none)
    (h : ∀ w', RowAt w' g1 s → Boxed w' g2 4 (.bool b) → Stir (fun k => k = g1 ∨ k = g2) w w' → KeepsOthers w w' → Q .normal a w') : wpListIn F nf Try.prog ops Q [o1, o2] a w := by
  refine wpListIn_store_row f1 26 (.tmp 2) x e1 g1 (encS s).toArray h2 hx 26 _ hr (by kernel_rfl) rfl (encS_one s) ?_
  rw [d1]
  have r2 : Boxed (w.setRow g1 (encS s).toArray) g2 4 (.bool ob) := hb.kept (grownBy_setRow _ _ _) (by simp; omega)
  refine wpListIn_plain f2 fun K hK => ?_
  unfold Oper.wpIn
  have hrun := run_storeVar_one (P := Try.prog) (w.setRow g1 (encS s).toArray) g2 4 4 (.bool ob) (.bool b) r2 (by kernel_rfl) rfl
  refine ⟨?_, ?_⟩
  · simp [Oper.about, e2]
  · rw [Oper.semAt_plain F _ _ (by rw [e2]; intro c hc'; cases hc')]
    have h3' : (a.put none undef).eval (.tmp 3) = .pointer (some ⟨g2, 0, none⟩) := h3
    have hc : (a.put none undef).eval (.const (.bool b)) = .bool b := rfl
    simp only [execOp, e2, h3', hc, Instr.storeAt, Instr.sureAddr, Sem.run_bind, Sem.run_pure, Result.andThen_ok, hrun]
    refine hK _ _ ?_
    rw [d2]
    have r1 : RowAt (w.setRow g1 (encS s).toArray) g1 s := setRow_heap _ _ _ _ _ _ hr
    exact wpListIn_nil (h _ (r1.kept (grownBy_setRow _ _ _) (by simp; omega)) (setRow_heap _ _ _ _ _ _ r2)
      (((Stir.refl (fun k => k = g1 ∨ k = g2) w).setRow (fun _ => .inl rfl) _).setRow (fun _ => .inr rfl) _)
      ((KeepsOthers.setRow _ _ _ _ _ _ hr).trans (KeepsOthers.setRow _ _ _ _ _ _ r2)))
theorem Act.put_nodefers (a : Act) (t : Tmp) (v : Value) : (a.put (some t) v).defers = a.defers := rfl
/-- the way out with nothing -/
theorem false_exit {F : Fence} {nf : Nat} {Q : Exit → Act → World → Prop} {a : Act} {w : World} (t : Tmp) (id : Nat) (old : SpecV) (ob : Bool) (g1 g2 : Nat) (o0 o1 o2 : Oper)
    (ht : t < a.tmps.size) (h2 : (a.put (some t) (.agg (encS zeroS).toArray)).eval (.tmp 2) = .pointer (some ⟨g1, 0, none⟩)) (h3 : (a.put (some t) (.agg (encS zeroS).toArray)).eval (.tmp 3) = .pointer (some ⟨g2, 0, none⟩)) (hr : RowAt w g1 old) (hb : Boxed w g2 4 (.bool ob)) (hne : g1 ≠ g2)
    (e0 : o0.op = .build 26 #[]) (d0 : o0.dst = some t) (f0 : o0.guard = none)
    (e1 : o1.op = .store 26 (.tmp 2) (.tmp t)) (e2 : o2.op = .store 4 (.tmp 3) (.const (.bool false))) (d1 : o1.dst = none) (d2 : o2.dst = none) (f1 : o1.guard = none) (f2 : o2.guard = none)
    (h : ∀ w', RowAt w' g1 zeroS → Boxed w' g2 4 (.bool false) → Stir (fun k => k = g1 ∨ k = g2) w w' → KeepsOthers w w' → Q .ret (a.put (some t) (.agg (encS zeroS).toArray)) w') :
    ((Code.region id #[o0, o1, o2] false).seq Code.ret).wpIn F nf Try.prog Q a w := by
  refine wpIn_seq_k fun K hK => ?_
  refine wpIn_region_lit ?_
  refine wpListIn_build f0 26 #[] e0 (encS zeroS).toArray (by kernel_rfl) ?_
  rw [d0]
  refine stores_in (.tmp t) zeroS old false ob g1 g2 (Act.eval_put_same a t _ ht) h2 h3 hr hb hne o1 o2 e1 e2 d1 d2 f1 f2 fun w' q1 q2 q3 q4 => ?_
  exact hK _ _ (wpIn_ret (h w' q1 q2 q3 q4))
theorem RowAt.cells {W : World} {b : Nat} {s0 : ByteArray} {s1 s2 s3 s4 s5 : Int} {s6 : Bool} (h : RowAt W b ⟨s0, s1, s2, s3, s4, s5, s6⟩) :
    W.cell? ⟨b, 0, none⟩ = some (.string s0) ∧ W.cell? ⟨b, 1, none⟩ = some (.int .i64 s1) ∧ W.cell? ⟨b, 2, none⟩ = some (.int .i64 s2) ∧ W.cell? ⟨b, 3, none⟩ = some (.int .i64 s3) ∧ W.cell? ⟨b, 4, none⟩ = some (.int .i64 s4) ∧ W.cell? ⟨b, 5, none⟩ = some (.int .i64 s5) ∧ W.cell? ⟨b, 6, none⟩ = some (.bool s6) := by
  have h' : W.heap[b]? = _ := h
  refine ⟨?_, ?_, ?_, ?_, ?_, ?_, ?_⟩ <;> (unfold World.cell?; rw [h']; rfl)
end Go.Proofs.Ytjdpmjpfhcdcfaa
