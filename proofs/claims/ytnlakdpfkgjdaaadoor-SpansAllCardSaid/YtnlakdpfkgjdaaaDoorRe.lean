import Derived.Test.YtnlakdpfkgjdaaaDoorCavB
import Derived.Laws.Rows
import Derived.Laws.Tables
import Derived.Test.YtnlakdpfkgjdaaaDoorWd
import Derived.BigRegionIn
import Derived.RegionIn
import Derived.BigQuiet
import Derived.Sort.BigQuietIn
import Derived.Lib.IndexBytes
import Derived.Lib.IndexLaws
import Derived.Test.YtnlakdpfkgjdaaaDoorPMy
import Derived.Test.YtnlakdpfkgjdaaaDoorSaS
/- Steps of the fenced walk at rows of cells: a load and a store of a whole row. No conditions. -/
namespace Go.Cav
open Go Go.RowKit
variable {P : Program}

theorem wpListIn_store_row {F : Fence} {nf : Nat} {ops : Array Oper} {rest : List Oper} {o : Oper} {a : Act} {w : World} {Q : Exit → Act → World → Prop} (hgd : o.guard = none) (ty : TypeId) (x y : Operand) (ho : o.op = .store ty x y)
    (g : Nat) (cells : Array Value) (hx : a.eval x = .pointer (some ⟨g, 0, none⟩)) (hy : a.eval y = .agg cells)
    (t : TypeId) (old : Array Value) (hg : w.heap[g]? = some (.cells old t (0, 0))) (hi : (P.info? ty).map (·.size) = some cells.size)
    (hold : old.size = cells.size) (h1 : cells.all (·.oneCell') = true)
    (h : wpListIn F nf P ops Q rest (a.put o.dst undef) (w.setRow g cells)) : wpListIn F nf P ops Q (o :: rest) a w := by
  refine wpListIn_plain hgd fun K hK => ?_
  unfold Oper.wpIn
  refine ⟨?_, ?_⟩
  · simp [Oper.about, ho]
  · rw [Oper.semAt_plain F _ _ (by rw [ho]; intro c hc'; cases hc')]
    simp only [execOp, ho, hx, hy, Instr.storeAt, Instr.sureAddr, Sem.run_bind, Sem.run_pure, Result.andThen_ok, run_storeVar_row w g t ty old cells hg hi hold h1]
    exact hK _ _ h

theorem wpListIn_load_row {F : Fence} {nf : Nat} {ops : Array Oper} {rest : List Oper} {o : Oper} {a : Act} {w : World} {Q : Exit → Act → World → Prop} (hgd : o.guard = none) (ty : TypeId) (x : Operand) (ho : o.op = .load ty x)
    (g : Nat) (hx : a.eval x = .pointer (some ⟨g, 0, none⟩)) (t : TypeId) (cs : Array Value) (fr : Nat × Nat) (d : TypeDesc) (hg : w.heap[g]? = some (.cells cs t fr))
    (hu : P.underlying ty = some d) (hd : (match d with | .struct _ | .array _ _ => true | _ => false) = true) (hi : (P.info? ty).map (·.size) = some cs.size)
    (h : wpListIn F nf P ops Q rest (a.put o.dst (.agg cs)) w) : wpListIn F nf P ops Q (o :: rest) a w := by
  refine wpListIn_plain hgd fun K hK => ?_
  unfold Oper.wpIn
  refine ⟨?_, ?_⟩
  · simp [Oper.about, ho]
  · rw [Oper.semAt_plain F _ _ (by rw [ho]; intro c hc'; cases hc')]
    simp only [execOp, ho, hx, Instr.loadAt, Instr.sureAddr, Sem.run_bind, Sem.run_pure, Result.andThen_ok, run_loadVar_row w g t ty cs fr d hg hu hd hi]
    exact hK _ _ h

theorem wpListIn_build {F : Fence} {nf : Nat} {ops : Array Oper} {rest : List Oper} {o : Oper} {a : Act} {w : World} {Q : Exit → Act → World → Prop} (hgd : o.guard = none) (t : TypeId) (parts : Array (Nat × Operand)) (ho : o.op = .build t parts)
    (cells : Array Value) (hf : P.built t (parts.map fun (i, x) => (i, a.eval x)).toList = some cells)
    (h : wpListIn F nf P ops Q rest (a.put o.dst (.agg cells)) w) : wpListIn F nf P ops Q (o :: rest) a w := by
  refine wpListIn_plain hgd fun K hK => ?_
  unfold Oper.wpIn
  refine ⟨?_, ?_⟩
  · simp [Oper.about, ho]
  · rw [Oper.semAt_plain F _ _ (by rw [ho]; intro c hc'; cases hc')]
    unfold execOp
    simp only [ho, Sem.run_bind, run_build w t _ cells hf, Result.andThen_ok]
    exact hK _ _ h

theorem grownBy_setRow (W : World) (g : Nat) (new : Array Value) : W.grownBy (W.setRow g new) (some g) :=
  ⟨rfl, rfl, rfl, by simp [World.setRow], fun k _ hk => setRow_other W g k new (fun e => hk (by rw [e]))⟩
theorem KeepsOthers.setRow (W : World) (g : Nat) (new old : Array Value) (t : TypeId) (fr : Nat × Nat) (h : W.heap[g]? = some (.cells old t fr)) : KeepsOthers W (W.setRow g new) :=
  KeepsOthers.of_grownBy (grownBy_setRow W g new) (fun j o e hj => by cases e; rw [h] at hj; cases hj; rfl)
theorem Stir.setRow {S : Nat → Prop} {a b : World} (h : Stir S a b) {g : Nat} (hg : g < a.heap.size → S g) (new : Array Value) : Stir S a (b.setRow g new) :=
  h.grown (grownBy_setRow b g new) (fun k e hk => by cases e; exact hg hk)
end Go.Cav

/- Words and laws of no program, for a range over a function whose iterator has boxes of its own: a relation that says of cells alone that they stay. No conditions. -/
namespace Go.Cav
open Go Go.RowKit

/-- Of the old blocks that hold cells, and of all below B, only those in T may have changed. -/
structure StirC (B : Nat) (T : Nat → Prop) (w w' : World) : Prop where
  os : w'.os = w.os
  tape : w'.tape = w.tape
  output : w'.output = w.output
  size : w.heap.size ≤ w'.heap.size
  block : ∀ i o, w.heap[i]? = some o → o.isCells = true → ¬ T i → w'.heap[i]? = some o
  old : ∀ i, i < B → i < w.heap.size → ¬ T i → w'.heap[i]? = w.heap[i]?

variable {B : Nat} {T : Nat → Prop}
theorem StirC.refl (B : Nat) (T : Nat → Prop) (w : World) : StirC B T w w := ⟨rfl, rfl, rfl, Nat.le_refl _, fun _ _ h _ _ => h, fun _ _ _ _ => rfl⟩
theorem StirC.trans {a b c : World} (h : StirC B T a b) (k : StirC B T b c) : StirC B T a c :=
  ⟨k.os.trans h.os, k.tape.trans h.tape, k.output.trans h.output, Nat.le_trans h.size k.size, fun i o ho hc hn => k.block i o (h.block i o ho hc hn) hc hn,
   fun i hi hl hn => (k.old i hi (Nat.lt_of_lt_of_le hl h.size) hn).trans (h.old i hi hl hn)⟩
theorem lt_of_heap {w : World} {i : Nat} {o : Obj} (h : w.heap[i]? = some o) : i < w.heap.size := by
  rcases Nat.lt_or_ge i w.heap.size with e | e
  · exact e
  · rw [Array.getElem?_eq_none e] at h; cases h
theorem StirC.of_stir {S : Nat → Prop} {a b : World} (h : Stir S a b) (hs : ∀ i, S i → T i) : StirC B T a b :=
  ⟨h.os, h.tape, h.output, h.size, fun i _ ho _ hn => (h.block i (lt_of_heap ho) (fun e => hn (hs i e))).trans ho, fun i _ hl hn => h.block i hl (fun e => hn (hs i e))⟩
theorem StirC.alloc {a b : World} (h : StirC B T a b) (o : Obj) : StirC B T a (b.alloc o) :=
  h.trans (StirC.of_stir ((Stir.refl (fun _ => False) b).alloc o) (fun _ e => e.elim))
theorem StirC.drew {a b : World} (h : StirC B T a b) : StirC B T a b.drew := ⟨h.os, h.tape, h.output, h.size, h.block, h.old⟩
theorem StirC.setCell {a b : World} (h : StirC B T a b) {p : Addr} (hp : T p.block) (u : Value) : StirC B T a (b.setCell p u) :=
  h.trans (StirC.of_stir ((Stir.refl (fun k => k = p.block) b).setCell (fun _ => rfl) u) (fun _ e => e ▸ hp))
theorem StirC.cell {a b : World} (h : StirC B T a b) {p : Addr} {v : Value} (hc : a.cell? p = some v) (hn : ¬ T p.block) : b.cell? p = some v := by
  have hh : ∃ o, a.heap[p.block]? = some o ∧ o.isCells = true := by
    unfold World.cell? at hc
    split at hc
    · rename_i he
      exact ⟨_, he, rfl⟩
    · cases hc
  obtain ⟨o, ho, hoc⟩ := hh
  exact (World.cell?_of_block ((h.block _ o ho hoc hn).trans ho.symm)).trans hc
theorem stirC_t {a b c : World} (h : StirC B T a b) (k : StirC B T b c) : StirC B T a c := h.trans k
theorem StirC.grown {a b c : World} {row : Option Nat} (h : StirC B T a b) (hg : b.grownBy c row) (hr : ∀ r, row = some r → B ≤ r ∧ ∃ o : Obj, b.heap[r]? = some o ∧ o.isCells = false) : StirC B T a c :=
  h.trans ⟨hg.os, hg.tape, hg.output, hg.size, fun i q hq hqc _ => by
    by_cases hi : some i = row
    · obtain ⟨_, o, ho, hc⟩ := hr i hi.symm
      rw [hq] at ho; cases ho; rw [hc] at hqc; cases hqc
    · exact (hg.block i (lt_of_heap hq) hi).trans hq,
   fun i hi hl _ => hg.block i hl (fun e => by have := (hr i e.symm).1; omega)⟩
theorem stirC_b (W : World) (l : Nat) (o o' : Obj) (hl : B ≤ l) (ho : W.heap[l]? = some o) (hc : o.isCells = false) : StirC B T W (W.putObj l o') :=
  (StirC.refl B T W).grown (grownBy_putObj' W l o') (fun r e => by cases e; exact ⟨hl, o, ho, hc⟩)
theorem ownFrom_stirC {β : Type} {B' : Nat} (w : World) (hB : B ≤ B') : OwnFrom (β := β) B' (fun _ W => StirC B T w W) :=
  fun _ _ _ _ hs hg hr => hs.grown hg (fun r e => ⟨Nat.le_trans hB (hr r e).1, (hr r e).2⟩)
/-- .. what is old stays, all of it -/
theorem StirC.below {a b c : World} (h : StirC B T b c) (h0 : Below B a b) (hB : B ≤ b.heap.size) (hT : ∀ k, T k → B ≤ k) : Below B a c :=
  h0.trans ⟨h.os, h.tape, h.output, h.size, fun i hi => h.old i hi (by omega) (fun e => by have := hT i e; omega)⟩

/-- WHAT AN ITERATOR OVER zs IS, at a body that keeps all cells but those of T. -/
abbrev IterC {α : Type} (F : Fence) (n : Nat) (P : Program) (gf : Nat) (lb : Array Value) (encs : α → Array Value) (B : Nat) (T : Nat → Prop) (zs : List α) (w : World) : Prop :=
  SeqStopsK F n P gf lb encs (StirC B T) (fun ys => ys = zs) (fun pre => pre <+: zs) zs.length w

/-- A slice value reads as a list of cells; where it is empty its capacity may be any. -/
def ReadsA (w : World) (size : Nat) (v : Value) (n : Nat) (xs : List Value) : Prop :=
  xs.length = n * size ∧ ((∃ c, v = .slice none 0 c ∧ n = 0) ∨ ∃ a c, v = .slice (some a) n c ∧ ∀ j u, xs[j]? = some u → w.cell? (a.add j) = some u)
theorem ReadsA.touch {S : Nat → Prop} {w w' : World} {size : Nat} {v : Value} {n : Nat} {xs : List Value} (h : ReadsA w size v n xs) (ht : Stir S w w') (hn : ∀ k, v.ownBlock = some k → ¬ S k) : ReadsA w' size v n xs := by
  refine ⟨h.1, ?_⟩
  rcases h.2 with hl | ⟨a, c, rfl, hc⟩
  · exact .inl hl
  · refine .inr ⟨a, c, rfl, fun j u hu => ht.cell (hc j u hu) ?_⟩
    rw [add_block]; exact hn _ rfl
theorem ReadsA.below {w w' : World} {size : Nat} {v : Value} {n : Nat} {xs : List Value} (h : ReadsA w size v n xs) (hb : Below w.heap.size w w') : ReadsA w' size v n xs :=
  h.touch (Stir.of_below hb (fun _ => False)) (fun _ _ e => e)
theorem Reads.any {w : World} {size : Nat} {v : Value} {n : Nat} {xs : List Value} (h : Reads w size v n xs) : ReadsA w size v n xs := by
  refine ⟨h.1, ?_⟩
  rcases h.2 with ⟨rfl, h0⟩ | h
  · exact .inl ⟨0, rfl, h0⟩
  · exact .inr h

end Go.Cav

/- A range over a function whose iterator writes cells of its own between two rounds: a law of no program, over the kit's laws of the loop's record. No conditions. -/
namespace Go.Cav
open Go Go.RowKit

/-- AN ITERATOR AND THE STEPS THAT IT TAKES BY ITSELF: Rs A B: between two rounds it may turn A into B; what the caller carries must bear that. S, Sp speak of the world behind, too. -/
def SeqT {α : Type} (F : Fence) (n : Nat) (P : Program) (g : Nat) (lb : Array Value) (encs : α → Array Value) (Kp Rs : World → World → Prop) (S Sp : List α → World → Prop) (N : Nat) (w : World) : Prop :=
  ∀ (l : Nat) (J Jx : List α → World → Prop) (W : World), Below w.heap.size w W → (∀ s A B, J s A → Rs A B → J s B) → (∀ s A B, Jx s A → Rs A B → Jx s B) →
    (∀ pre x W1, J pre W1 → pre.length < N → YieldAt F (n - 1) P l (encs x) W1 fun e W' =>
      (e = .returned (.bool true) ∧ J (pre ++ [x]) W' ∧ Kp W1 W') ∨ (e = .returned (.bool false) ∧ Jx (pre ++ [x]) W')) →
    J [] W →
    CallsIn F n P g (#[.func (.yield l) #[] #[]] ++ lb) W fun e W' => (∃ v, e = .returned v) ∧ ((∃ xs, S xs W' ∧ J xs W') ∨ (∃ pre, Sp pre W' ∧ Jx pre W'))

/-- a step of the iterator's leaves alone what is neither cells nor a walk's object -/
def Plain (Rs : World → World → Prop) : Prop := ∀ (A B : World) (i : Nat) (o : Obj), Rs A B → A.heap[i]? = some o → o.isCells = false → o.isWalk = false → B.heap[i]? = some o

variable {F : Fence} {n : Nat} {P : Program}

theorem wpIn_rangeFunc_T {α : Type} {g : Operand} {ps : Array Tmp} {assign body : Code} {Q : Exit → Act → World → Prop} {a : Act} {w : World}
    (hro : F.round = none) (h1 : 1 ≤ n) {gf : Nat} {lb : Array Value} (hg : a.eval g = .func (.func gf) #[] lb) (hFg : F.fn gf) (eg : ∀ args w, (callFunc gf args).run P w = .ok (.enter gf args) w)
    {encs : α → Array Value} {Kp Rs : World → World → Prop} {S Sp : List α → World → Prop} {N : Nat} {w0 : World} (hseq : SeqT F (n - 1) P gf lb encs Kp Rs S Sp N w0) (hRs : Plain Rs)
    (hKt : ∀ {A B C : World}, Kp A B → Kp B C → Kp A C) (hKb : ∀ (W : World) (l : Nat) (o o' : Obj), w.heap.size ≤ l → W.heap[l]? = some o → o.isCells = false → o.isWalk = false → Kp W (W.putObj l o')) (hb0 : Below w0.heap.size w0 w) (hps : ∀ x, (encs x).size = ps.size)
    (I : List α → World → Prop) (Ix : Code → List α → World → Prop) (hI : OwnFrom w.heap.size I) (hIx : ∀ c, OwnFrom w.heap.size (Ix c)) (hIR : ∀ s A B, I s A → Rs A B → I s B) (hIxR : ∀ c s A B, Ix c s A → Rs A B → Ix c s B) (h0 : I [] w) (a₁ : α → Act)
    (hassign : ∀ (l : Nat) (x : α) (W : World) (K : Act → World → Prop), K (a₁ x) W →
      assign.wpIn (F.inRound l) (n - 1 - 1) P (Exit.then K (fun _ _ _ => False)) { tmps := (ps.zip (encs x)).foldl (fun t (p, v) => t.setIfInBounds p v) a.tmps, defers := [] } W)
    (hbody : ∀ (l : Nat) (pre : List α) (x : α) (W : World), I pre W → pre.length < N → body.wpIn (F.inRound l) (n - 1 - 1) P (ownPostG w.heap.size Kp I Ix (pre ++ [x]) W) (a₁ x) W)
    (hdone : ∀ (D : Nat) (xs : List α) (W W0 : World), w.heap.size ≤ D → S xs W0 → W = W0.putObj (D + 1) (W.heap.getD (D + 1) (.deferred none)) → I xs W → W.heap[D]? = some (.deferred (some [])) → Q .normal { a with defers := { target := .collected D, args := #[] } :: a.defers } W)
    (hstop : ∀ (D : Nat) (c : Code) (pre : List α) (W W0 : World), w.heap.size ≤ D → Sp pre W0 → Ix c pre W → W.heap[D]? = some (.deferred (some [])) → c.wpIn F n P Q { a with defers := { target := .collected D, args := #[] } :: a.defers } W) :
    (Code.rangeFunc g ps assign body).wpIn F n P Q a w := by
  refine wpIn_rangeFunc fun fn hfn => ?_
  rw [hro]
  obtain ⟨L, hL⟩ : ∃ L, L = w.heap.size + 1 := ⟨_, rfl⟩
  obtain ⟨rec, hrec⟩ : ∃ rec : LoopState → Option Code → Loop, rec = fun st pe => { state := st, pending := pe, fn, tmps := a.tmps, params := ps, assign, body, defers := w.heap.size } := ⟨_, rfl⟩
  obtain ⟨V, hV⟩ : ∃ V, (w.alloc (.deferred (some []))).alloc (.loop (rec .ready none)) = V := ⟨_, rfl⟩
  have vL : V.heap[L]? = some (.loop (rec .ready none)) := by
    rw [← hV, hL]; have := World.alloc_heap_new (w.alloc (.deferred (some []))) (.loop (rec .ready none)); rwa [World.size_alloc] at this
  have vK : V.heap[w.heap.size]? = some (.deferred (some [])) := by
    rw [← hV]; exact (Below.heap_alloc _ _ _ (by simp)).trans (World.alloc_heap_new w _)
  have vI : I [] V := by rw [← hV]; exact hI.alloc _ (hI.alloc _ h0)
  have vb : Below w0.heap.size w0 V := by
    rw [← hV]; exact hb0.trans ((((Below.refl _ w).alloc (Nat.le_refl _) _).alloc (by simp) _).mono hb0.size)
  refine ⟨L, [{ target := .collected w.heap.size, args := #[] }], V, { target := .fn (.func gf) lb, args := #[.func (.yield L) #[] #[]] }, V, gf, #[.func (.yield L) #[] #[]] ++ lb, V, ?_, ?_, ?_, ?_, fun _ => h1, ?_⟩
  · rw [← hV, hrec, hL]; exact run_enterLoop_outer _ _ _ _ _
  · simp only [resolve, hg]
    simp [go_sem]
  · intro f' hf'; simp [Target.leads] at hf'; subst hf'; exact hFg
  · simp [invoke, go_sem, eg]
  refine (hseq L (fun pre W => I pre W ∧ W.heap[L]? = some (.loop (rec .ready none)) ∧ W.heap[w.heap.size]? = some (.deferred (some [])))
    (fun pre W => ∃ c, Ix c pre W ∧ W.heap[L]? = some (.loop (rec .done (some c))) ∧ W.heap[w.heap.size]? = some (.deferred (some [])))
    V vb (fun s A B hs hr => ⟨hIR s A B hs.1 hr, hRs A B _ _ hr hs.2.1 rfl rfl, hRs A B _ _ hr hs.2.2 rfl rfl⟩)
    (fun s A B ⟨c, hc, hl, hk⟩ hr => ⟨c, hIxR c s A B hc hr, hRs A B _ _ hr hl rfl rfl, hRs A B _ _ hr hk rfl rfl⟩) ?_ ⟨vI, vL, vK⟩).mono ?_
  · rintro pre x W ⟨hi, hl, hk⟩ hlen
    have hlt : L < W.heap.size := (Array.getElem?_eq_some_iff.1 hl).1
    have hy := run_yield (P := P) (args := encs x) hl (by rw [hrec]; exact hps x)
    rw [hrec] at hy
    refine ⟨fn, _, assign, body, hy, roundIn_of_wpIn hfn (hassign _ x W _ ⟨_, run_beginRound hl (by rw [hrec]), ?_⟩)⟩
    obtain ⟨B, hB⟩ : ∃ B, W.putObj L (.loop { rec .ready none with state := .busy }) = B := ⟨_, rfl⟩
    have bL : B.heap[L]? = some (.loop { rec .ready none with state := .busy }) := by rw [← hB]; exact World.putObj_heap_same hlt
    have bK : B.heap[w.heap.size]? = some (.deferred (some [])) := by rw [← hB]; exact (World.putObj_heap_other (by omega)).trans hk
    have bP : Kp W B := by rw [← hB]; exact hKb _ _ _ _ (by omega) hl rfl rfl
    have bI : I pre B := by rw [← hB]; exact hI.putObj _ hi (by omega) hl rfl
    rw [hB]
    refine wpIn_mono (hbody _ pre x B bI hlen) ?_
    have fin : ∀ (jump : Option Code) (Z : World), KeepsFrom w.heap.size B Z →
        (Instr.endRound L jump).run P Z = .ok (.bool jump.isNone) (Z.putObj L (.loop (rec (if jump.isNone then .ready else .done) jump))) ∧ Z.heap[L]? = some (.loop { rec .ready none with state := .busy }) ∧
        (Z.putObj L (.loop (rec (if jump.isNone then .ready else .done) jump))).heap[L]? = some (.loop (rec (if jump.isNone then .ready else .done) jump)) ∧
        (Z.putObj L (.loop (rec (if jump.isNone then .ready else .done) jump))).heap[w.heap.size]? = some (.deferred (some [])) := by
      intro jump Z hz
      have zL := hz.same _ _ (by omega) bL rfl
      have hend := run_endRound (P := P) jump zL
      rw [hrec] at hend ⊢
      exact ⟨hend, by rw [hrec] at zL; exact zL, World.putObj_heap_same (Array.getElem?_eq_some_iff.1 zL).1, (World.putObj_heap_other (by omega)).trans (hz.same _ _ (Nat.le_refl _) bK rfl)⟩
    rintro e a3 Z hp
    cases e with
    | normal =>
      obtain ⟨hz, hkp, hi3⟩ := hp
      obtain ⟨hr, zL, zL2, zK⟩ := fin none Z hz
      exact ⟨_, _, hr, .inl ⟨rfl, ⟨hI.putObj _ hi3 (by omega) zL rfl, zL2, zK⟩, hKt (hKt bP hkp) (hKb _ _ _ _ (by omega) zL rfl rfl)⟩⟩
    | ret =>
      obtain ⟨hr, zL, zL2, zK⟩ := fin (some .ret) Z hp.1
      exact ⟨_, _, hr, .inr ⟨rfl, .ret, (hIx _).putObj _ hp.2 (by omega) zL rfl, zL2, zK⟩⟩
    | exit id =>
      obtain ⟨hr, zL, zL2, zK⟩ := fin (some (.exit id)) Z hp.1
      exact ⟨_, _, hr, .inr ⟨rfl, .exit id, (hIx _).putObj _ hp.2 (by omega) zL rfl, zL2, zK⟩⟩
    | goto t =>
      obtain ⟨hr, zL, zL2, zK⟩ := fin (some (.goto t)) Z hp.1
      exact ⟨_, _, hr, .inr ⟨rfl, .goto t, (hIx _).putObj _ hp.2 (by omega) zL rfl, zL2, zK⟩⟩
    | panic ch => exact hp.elim
    | outgrown => exact hp.elim
  · rintro e Z ⟨⟨v, rfl⟩, (⟨xs, hS, hi, hl, hk⟩ | ⟨pre, hSp, c, hi, hl, hk⟩)⟩
    · have hend := run_endLoop (P := P) hl (by rw [hrec]; simp)
      rw [hrec] at hend
      refine ⟨none, _, hend, ?_⟩
      refine hdone _ xs _ Z (Nat.le_refl _) hS ?_ (hI.putObj _ hi (by omega) hl rfl) ((World.putObj_heap_other (by omega)).trans hk)
      rw [← hL]
      congr 1
      rw [Array.getD_eq_getD_getElem?, World.putObj_heap_same (Array.getElem?_eq_some_iff.1 hl).1]; rfl
    · have hend := run_endLoop (P := P) hl (by rw [hrec]; simp)
      rw [hrec] at hend
      exact ⟨some c, _, hend, hstop _ c pre _ Z (Nat.le_refl _) hSp ((hIx c).putObj _ hi (by omega) hl rfl) ((World.putObj_heap_other (by omega)).trans hk)⟩
end Go.Cav

/- What the library's SplitSeq at a comma hands on: the pieces of the text. Condition: a bound on the text's length. -/
namespace Go.Proofs.YtnlakdpfkgjdaaaDoor
open Go.RowKit Go.Shelf Go.Cav
attribute [local go_sem] Oper.semAt_some

/-- the pieces of a text at its commas -/
def cutB (s : ByteArray) : List ByteArray := (cutAt 44 s.data.toList).map fun p => ⟨p.toArray⟩
theorem cut_index (c : UInt8) : ∀ l : List UInt8, (Lib.index l [c] = -1 ∧ cutAt c l = [l]) ∨ ∃ i : Nat, Lib.index l [c] = i ∧ i < l.length ∧ cutAt c l = l.take i :: cutAt c (l.drop (i + 1))
  | [] => .inl ⟨rfl, rfl⟩
  | b :: l => by
    by_cases h : b = c
    · subst h
      refine .inr ⟨0, by rw [Lib.index]; simp [List.isPrefixOf], by simp, ?_⟩
      rw [cutAt, if_pos rfl]; rfl
    · rw [cutAt, if_neg h, index_one_ne b c l h]
      rcases cut_index c l with ⟨h1, h2⟩ | ⟨i, h1, h2, h3⟩
      · refine .inl ⟨by rw [h1]; rfl, by rw [h2]; rfl⟩
      · refine .inr ⟨i + 1, ?_, by simp; omega, ?_⟩
        · rw [h1, if_neg (fun e => by have := beq_iff_eq.1 e; omega)]; simp
        · rw [h3]; rfl
theorem cutB_index (s : ByteArray) : (Lib.index s.data.toList [44] = -1 ∧ cutB s = [s]) ∨ ∃ i : Nat, Lib.index s.data.toList [44] = i ∧ i < s.size ∧ cutB s = s.extract 0 i :: cutB (s.extract (i + 1) s.size) := by
  unfold cutB
  rcases cut_index 44 s.data.toList with ⟨h1, h2⟩ | ⟨i, h1, h2, h3⟩
  · exact .inl ⟨h1, by rw [h2]; rfl⟩
  · refine .inr ⟨i, h1, by rw [Array.length_toList] at h2; exact h2, ?_⟩
    rw [h3, List.map_cons]
    congr 1
    · apply ByteArray.ext
      rw [ByteArray.data_extract]
      apply Array.ext'; simp
    · have e : (s.extract (i + 1) s.size).data.toList = s.data.toList.drop (i + 1) := by
        rw [ByteArray.data_extract, Array.toList_extract, List.extract_eq_take_drop]
        exact List.take_of_length_le (by rw [List.length_drop, Array.length_toList]; exact Nat.le_refl _)
      rw [e]

/-- the iterator's own steps: it turns one box -/
def Own1 (B : Nat) (X Y : World) : Prop := Stir (fun k => k = B) X Y ∧ ∃ o : Obj, X.heap[B]? = some o ∧ o.isCells = true
theorem own1_plain (B : Nat) : Plain (Own1 B) := by
  intro X Y i o h hi hc _
  refine (h.1.block i (lt_of_heap hi) (fun e => ?_)).trans hi
  obtain ⟨o', h1, h2⟩ := h.2
  rw [e] at hi
  rw [hi] at h1; cases h1; rw [hc] at h2; cases h2
theorem boxed_stir {S : Nat → Prop} {W W' : World} {B t : Nat} {v : Value} (h : Boxed W B t v) (hs : Stir S W W') (hn : ¬ S B) : Boxed W' B t v := by
  have hb := h
  unfold Boxed at hb ⊢
  exact (hs.block B h.lt hn).trans hb
def lenS : Option Value → Nat
  | some (.string x) => x.size
  | _ => 0

set_option maxRecDepth 100000 in
set_option maxHeartbeats 4000000 in
theorem commas_in (T : Nat → Prop) (Bp Bs B0 : Nat) (m : Int) (hps : Bp ≠ Bs) (h0s : B0 ≠ Bs) (hgs : 0 ≠ Bs) (hTp : ¬ T Bp) (hTs : ¬ T Bs) (hT0 : ¬ T B0) (hTg : ¬ T 0) (n : Nat) (hn : 1 ≤ n) (l : Nat) (s0 : ByteArray) (hm : s0.size ≤ 4000000000)
    (J Jx : List ByteArray → World → Prop) (W : World)
    (hJ : ∀ s A B, J s A → Own1 Bs A B → J s B)
    (hY : ∀ pre x W1, x.size ≤ 4000000000 → J pre W1 → pre.length < (cutB s0).length → YieldAt Fence.wide (n - 1) Tryd.prog l #[.string x] W1 fun e W' =>
      (e = .returned (.bool true) ∧ J (pre ++ [x]) W' ∧ Stir T W1 W') ∨ (e = .returned (.bool false) ∧ Jx (pre ++ [x]) W'))
    (bp : Boxed W Bp 9 (.string ⟨#[44]⟩)) (bs : Boxed W Bs 9 (.string s0)) (b0 : Boxed W B0 3 (.int .i64 0)) (hg : W.cell? ⟨0, 0, none⟩ = some (.int .i64 m)) (h0 : J [] W) :
    CallsIn Fence.wide n Tryd.prog 59 #[.func (.yield l) #[] #[], .pointer (some ⟨Bp, 0, none⟩), .pointer (some ⟨Bs, 0, none⟩), .pointer (some ⟨B0, 0, none⟩)] W fun e W' => (∃ v, e = .returned v) ∧
      ((∃ xs, xs = cutB s0 ∧ J xs W') ∨ (∃ pre, pre <+: cutB s0 ∧ Jx pre W')) := by
  refine callsIn_of_wp Tryd.func59 rfl trivial ?_ rfl
  simp only [Tryd.ntmps59, List.size_toArray, List.length_cons, List.length_nil, Nat.reduceAdd, Nat.reduceSub, Array.replicate_succ, Array.replicate_zero, List.push_toArray, List.append_toArray, List.nil_append, List.cons_append]
  have HB := Lib.hid (And.intro bs (And.intro b0 hg))
  have Hbp := Lib.hid bp
  have c1 := bp.cell
  clear bs b0 bp hg
  gi_wp2
  clear c1
  gi_loopw [] (fun wr => ∃ pre x, Hid (pre ++ cutB x = cutB s0) ∧ x.size ≤ 4000000000 ∧ Hid (J pre wr) ∧ Hid (Boxed wr Bp 9 (.string ⟨#[44]⟩)) ∧ Hid (Boxed wr Bs 9 (.string x) ∧ Boxed wr B0 3 (.int .i64 0) ∧ wr.cell? ⟨0, 0, none⟩ = some (.int .i64 m))) (fun wr => lenS (wr.cell? ⟨Bs, 0, none⟩))
  case atStart => exact ⟨[], s0, rfl, hm, h0, Hbp, HB⟩
  case round =>
    obtain ⟨pre, x, HT, hlen, HJ, Hbp, HB⟩ := hrel
    clear h0
    obtain ⟨bs, b0, hg⟩ := HB.out
    have c1 := Hbp.out.cell
    have c2 := bs.cell
    have c3 := b0.cell
    have f2 := bs.frozen
    have hml : Hid (lenS (wr.cell? ⟨Bs, 0, none⟩) = x.size) := by rw [c2]; rfl
    have hI := (callsIn_wide (n := n - 1)).2 (Tryd.strings_Index x ⟨#[44]⟩ m wr (by omega) hg)
    have Hbs := Lib.hid bs
    have Hb0 := Lib.hid b0
    have Hg := Lib.hid hg
    clear bs b0 hg HB
    rcases cutB_index x with ⟨hi, hc⟩ | ⟨i, hi, hil, hc⟩
    · rw [show (ByteArray.mk #[44]).data.toList = [44] from rfl, hi] at hI
      have HC := Lib.hid hc
      clear hi hc
      have hpl : pre.length < (cutB s0).length := by rw [← HT.out, HC.out]; simp
      obtain ⟨fn, tmps, assign, body, hy, hR⟩ := hY pre x wr hlen HJ.out hpl
      try dsimp only at hy hR
      gi_wp2_with fail
      refine ⟨trivial, hI.mono ?_⟩
      rintro e w1 ⟨rfl, rfl⟩
      clear hI
      gi_wp2_with fail
      refine hR.mono ?_
      rintro e W3 (⟨rfl, hJ3, hk3⟩ | ⟨rfl, hJx3⟩)
      · clear hy hR c1 c2 c3 f2
        gi_wp2
        go_end0
        exact ⟨⟨_, rfl⟩, .inl ⟨_, by rw [← HT.out, HC.out], hJ3⟩⟩
      · clear hy hR c1 c2 c3 f2
        gi_wp2
        go_end0
        exact ⟨⟨_, rfl⟩, .inr ⟨_, by rw [← HT.out, HC.out]; exact List.prefix_refl _, hJx3⟩⟩
    · rw [show (ByteArray.mk #[44]).data.toList = [44] from rfl, hi] at hI
      have HC := Lib.hid hc
      clear hi hc
      have hpl : pre.length < (cutB s0).length := by rw [← HT.out, HC.out]; simp
      have htw : pre ++ [x.extract 0 i] ++ cutB (x.extract (i + 1) x.size) = cutB s0 := by rw [← HT.out, HC.out]; simp
      have HT2 := Lib.hid htw
      have hle : (x.extract (i + 1) x.size).size ≤ 4000000000 ∧ (x.extract (i + 1) x.size).size < x.size := by rw [ByteArray.size_extract]; omega
      have HLE := Lib.hid hle
      clear htw hle
      have e1 : ¬ (i : Int) < 0 := by omega
      obtain ⟨fn, tmps, assign, body, hy, hR⟩ := hY pre (x.extract 0 i) wr (by rw [ByteArray.size_extract]; omega) HJ.out hpl
      gi_wp2_with fail
      refine ⟨trivial, hI.mono ?_⟩
      rintro e w1 ⟨rfl, rfl⟩
      clear hI
      gi_wp2_with fail
      refine hR.mono ?_
      rintro e W3 (⟨rfl, hJ3, hk3⟩ | ⟨rfl, hJx3⟩)
      · clear hy hR c1 c2 c3 f2
        have bs3 := boxed_stir Hbs.out hk3 hTs
        have bp3 := boxed_stir Hbp.out hk3 hTp
        have b03 := boxed_stir Hb0.out hk3 hT0
        have hg3 := hk3.cell Hg.out hTg
        have c1 := bp3.cell
        have c2 := bs3.cell
        have f2 := bs3.frozen
        have hst : Stir (fun k => k = Bs) W3 (W3.setCell ⟨Bs, 0, none⟩ (.string (x.extract (i + 1) x.size))) := (Stir.refl (fun k => k = Bs) W3).setCell (p := ⟨Bs, 0, none⟩) (fun _ => rfl) _
        have hF : Hid (J (pre ++ [x.extract 0 i]) (W3.setCell ⟨Bs, 0, none⟩ (.string (x.extract (i + 1) x.size))) ∧ Boxed (W3.setCell ⟨Bs, 0, none⟩ (.string (x.extract (i + 1) x.size))) Bp 9 (.string ⟨#[44]⟩) ∧ Boxed (W3.setCell ⟨Bs, 0, none⟩ (.string (x.extract (i + 1) x.size))) Bs 9 (.string (x.extract (i + 1) x.size)) ∧ Boxed (W3.setCell ⟨Bs, 0, none⟩ (.string (x.extract (i + 1) x.size))) B0 3 (.int .i64 0) ∧ (W3.setCell ⟨Bs, 0, none⟩ (.string (x.extract (i + 1) x.size))).cell? ⟨0, 0, none⟩ = some (.int .i64 m)) :=
          Lib.hid ⟨hJ _ _ _ hJ3 ⟨hst, _, bs3, rfl⟩, boxed_stir bp3 hst hps, bs3.set _, boxed_stir b03 hst h0s, hst.cell hg3 hgs⟩
        clear hst bs3 bp3 b03 hg3 hJ3 hk3
        gi_wp2
        obtain ⟨g1, g2, g3, g4, g5⟩ := hF.out
        go_roundw
        case rel => exact ⟨_, _, HT2, HLE.out.1, Lib.hid g1, Lib.hid g2, Lib.hid ⟨g3, g4, g5⟩⟩
        case measure => rw [hml.out, g3.cell]; exact HLE.out.2
      · clear hy hR c1 c2 c3 f2
        gi_wp2
        refine bodyPost_ret (results_none rfl _ _ _) rfl ?_
        exact ⟨⟨_, rfl⟩, .inr ⟨_, ⟨_, HT2.out⟩, hJx3⟩⟩
/-- a piece, not too long -/
abbrev Pc : Type := { x : ByteArray // x.size ≤ 4000000000 }
theorem cutB_len (s : ByteArray) : (cutB s).length ≤ s.size + 1 := by
  unfold cutB
  rw [List.length_map]
  have key : ∀ l : List UInt8, (cutAt 44 l).length ≤ l.length + 1 := by
    intro l
    induction l with
    | nil => simp [cutAt]
    | cons b l ih =>
      rw [cutAt]
      split
      · simp; exact ih
      · cases h : cutAt 44 l with
        | nil => simp [headCons]
        | cons p r => rw [h] at ih; simp [headCons] at ih ⊢; omega
  have := key s.data.toList
  rw [Array.length_toList] at this
  exact this
theorem commas_seq (T : Nat → Prop) (Bp Bs B0 : Nat) (m : Int) (hps : Bp ≠ Bs) (h0s : B0 ≠ Bs) (hgs : 0 ≠ Bs) (hTp : ¬ T Bp) (hTs : ¬ T Bs) (hT0 : ¬ T B0) (hTg : ¬ T 0) (n : Nat) (hn : 1 ≤ n) (s0 : ByteArray) (hm : s0.size ≤ 4000000000) (w : World)
    (bp : Boxed w Bp 9 (.string ⟨#[44]⟩)) (bs : Boxed w Bs 9 (.string s0)) (b0 : Boxed w B0 3 (.int .i64 0)) (hg : w.cell? ⟨0, 0, none⟩ = some (.int .i64 m)) :
    SeqT Fence.wide n Tryd.prog 59 #[.pointer (some ⟨Bp, 0, none⟩), .pointer (some ⟨Bs, 0, none⟩), .pointer (some ⟨B0, 0, none⟩)] (fun x : Pc => #[.string x.1]) (Stir T) (Own1 Bs)
      (fun xs _ => xs.map (·.1) = cutB s0) (fun pre _ => pre.map (·.1) <+: cutB s0) (cutB s0).length w := by
  intro l J Jx W hW hJ _ hY h0
  have hs : Stir (fun _ => False) w W := Stir.of_below hW _
  refine (commas_in T Bp Bs B0 m hps h0s hgs hTp hTs hT0 hTg n hn l s0 hm (fun xs W => ∃ ys : List Pc, ys.map (·.1) = xs ∧ J ys W) (fun xs W => ∃ ys : List Pc, ys.map (·.1) = xs ∧ Jx ys W) W ?_ ?_ (boxed_stir bp hs (fun e => e)) (boxed_stir bs hs (fun e => e)) (boxed_stir b0 hs (fun e => e)) (hs.cell hg (fun e => e)) ⟨[], rfl, h0⟩).mono ?_
  · rintro xs X Y ⟨ys, e, h⟩ hr
    exact ⟨ys, e, hJ _ _ _ h hr⟩
  · rintro pre x W1 hx ⟨ys, e, h⟩ hl
    refine (?_ : _ → _) (hY ys ⟨x, hx⟩ W1 h (by rw [← e, List.length_map] at hl; exact hl))
    rintro ⟨fn, tmps, assign, body, hy, hR⟩
    refine ⟨fn, tmps, assign, body, hy, hR.mono ?_⟩
    rintro e' W' (⟨h1, h2, h3⟩ | ⟨h1, h2⟩)
    · exact .inl ⟨h1, ⟨_, by rw [List.map_append, e]; rfl, h2⟩, h3⟩
    · exact .inr ⟨h1, _, by rw [List.map_append, e]; rfl, h2⟩
  · rintro e' W' ⟨hv, (⟨xs, h1, ys, h2, h3⟩ | ⟨xs, h1, ys, h2, h3⟩)⟩
    · exact ⟨hv, .inl ⟨ys, h2.trans h1, h3⟩⟩
    · exact ⟨hv, .inr ⟨ys, by show ys.map (·.1) <+: _; rw [h2]; exact h1, h3⟩⟩
theorem split_any (s : ByteArray) (w : World) : Calls Tryd.prog 29 #[.string s, .string ⟨#[44]⟩] w fun e w' => e = .returned (.func (.func 59) #[] #[.pointer (some ⟨w.heap.size + 1, 0, none⟩), .pointer (some ⟨w.heap.size, 0, none⟩), .pointer (some ⟨w.heap.size + 2, 0, none⟩)]) ∧ w' = ((w.alloc (.cells #[.string s] 9)).alloc (.cells #[.string ⟨#[44]⟩] 9)).alloc (.cells #[.int .i64 0] 3) := by
  have h : Calls Tryd.prog 42 #[.string s, .string ⟨#[44]⟩, .int .i64 0] w fun e w' => e = .returned (.func (.func 59) #[] #[.pointer (some ⟨w.heap.size + 1, 0, none⟩), .pointer (some ⟨w.heap.size, 0, none⟩), .pointer (some ⟨w.heap.size + 2, 0, none⟩)]) ∧ w' = ((w.alloc (.cells #[.string s] 9)).alloc (.cells #[.string ⟨#[44]⟩] 9)).alloc (.cells #[.int .i64 0] 3) := by
    go_enter Tryd.func42, Tryd.ntmps42
    go_wp2
    go_ret
    exact ⟨by simp, rfl⟩
  go_enter Tryd.func29, Tryd.ntmps29
  go_wp2_with fail
  refine h.mono ?_
  rintro e w1 ⟨rfl, rfl⟩
  go_wp2
  go_ret
  exact ⟨rfl, rfl⟩
end Go.Proofs.YtnlakdpfkgjdaaaDoor

/- spans.Read: what it tells of a text. Condition: a bound on the text's length. -/
namespace Go.Proofs.YtnlakdpfkgjdaaaDoor.G
open Go.RowKit Go.Shelf Go.Cav Go.Proofs.YtnlakdpfkgjdaaaDoorW.PrintWords Go.Proofs.YtnlakdpfkgjdaaaDoorW.PrintLast Go.Proofs.YtnlakdpfkgjdaaaDoorW.PrintMore
attribute [local go_sem] Oper.semAt_some
/-- is a text a number for Atoi? -/
def atoiO (s : ByteArray) : Bool := match Lib.atoiAll s.data.toList with | .ok _ => true | _ => false
theorem atoi_err (s : ByteArray) (hs : s.size ≤ 281474976710656) (w : World) (hW : Wd w) :
    Calls Tryd.prog 31 #[.string s] w fun e w' => ∃ ev, e = .returned (.tuple #[.int .i64 (atoiV s), ev]) ∧ (atoiO s = true → ev = .nilIface) ∧ (atoiO s = false → ∃ te pe, ev = .iface te pe) ∧ Below w.heap.size w w' := by
  obtain ⟨ev0, hv0, he0⟩ := hW.syn
  obtain ⟨ev1, hv1, he1⟩ := hW.rng
  unfold atoiV atoiO
  cases hc : Lib.atoiAll s.data.toList with
  | «syntax» =>
    refine (Tryd.strconv_Atoi_syntax s hs hc ev0 w hv0 he0).mono ?_
    rintro e w1 ⟨N, rfl, -, -, hb⟩
    exact ⟨_, rfl, fun h => by simp at h, fun _ => ⟨_, _, rfl⟩, hb⟩
  | range =>
    refine (Tryd.strconv_Atoi_range s hs hc ev1 w hv1 he1).mono ?_
    rintro e w1 ⟨N, rfl, -, -, hb⟩
    exact ⟨_, rfl, fun h => by simp at h, fun _ => ⟨_, _, rfl⟩, hb⟩
  | ok v =>
    refine (Tryd.strconv_Atoi_ok s (by omega) v hc w).mono ?_
    rintro e w1 ⟨rfl, hb⟩
    exact ⟨_, rfl, fun _ => rfl, fun h => by simp at h, atoi_ok_below hb⟩
def cut1 (x : ByteArray) : ByteArray := ⟨(Lib.cut x.data.toList [45]).1.toArray⟩
def cut2 (x : ByteArray) : ByteArray := ⟨(Lib.cut x.data.toList [45]).2.1.toArray⟩
def cutH (x : ByteArray) : Bool := (Lib.cut x.data.toList [45]).2.2
theorem cut_sizes (x : ByteArray) : (cut1 x).size ≤ x.size ∧ (cut2 x).size ≤ x.size := by
  unfold cut1 cut2 Lib.cut
  have e : ∀ l : List UInt8, (ByteArray.mk l.toArray).size = l.length := fun l => rfl
  have h : x.data.toList.length = x.size := by rw [Array.length_toList]; rfl
  split
  · exact ⟨by rw [← h]; exact Nat.le_trans (Nat.le_of_eq (List.length_take)) (Nat.min_le_right _ _), by rw [← h]; exact Nat.le_trans (Nat.le_of_eq (List.length_drop)) (Nat.sub_le _ _)⟩
  · exact ⟨by rw [← h]; exact Nat.le_refl _, Nat.zero_le _⟩
/-- the span that a piece tells -/
def oneP (x : ByteArray) : Option S31 :=
  if atoiO (cut1 x) = true ∧ (cutH x = true → atoiO (cut2 x) = true) then some ⟨atoiV (cut1 x), if cutH x then atoiV (cut2 x) else atoiV (cut1 x)⟩ else none
/-- the spans of the pieces up to the first that tells none -/
def readL : List ByteArray → List S31
  | [] => []
  | x :: r => match oneP x with | some s => s :: readL r | none => []
/-- do all tell one? -/
def okL (l : List ByteArray) : Prop := ∀ x ∈ l, (oneP x).isSome = true
theorem readL_app : ∀ {l : List ByteArray} (m : List ByteArray), okL l → readL (l ++ m) = readL l ++ readL m
  | [], m, _ => rfl
  | x :: l, m, h => by
    have hx := h x (by simp)
    rw [List.cons_append, readL, readL]
    cases ho : oneP x with
    | none => rw [ho] at hx; simp at hx
    | some s => simp only; rw [readL_app m (fun y hy => h y (by simp [hy]))]; rfl
theorem readL_len : ∀ l : List ByteArray, (readL l).length ≤ l.length
  | [] => by simp [readL]
  | x :: l => by
    have := readL_len l
    rw [readL]
    split
    · simp; exact this
    · simp
def readP (s : ByteArray) : List S31 × Bool := if mayB (readL (cutB s)) = true ∧ textS (readL (cutB s)) = s then (readL (cutB s), true) else ([], false)
theorem R_cells {w : World} {base : Nat} {v : Value} {l : List S31} (h : w.ownsRow base 31 2 v l.length (l.flatMap encSp)) : Kd.R k31 31 w base (fun _ => True) v l := by
  refine ⟨fun _ _ => trivial, l.flatMap encSp, h, ?_⟩
  have key : ∀ l : List S31, Reps (k31.M w base (fun k => True ∧ some k ≠ v.ownBlock)) 2 l (l.flatMap encSp) := by
    intro l
    induction l with
    | nil => exact Reps.none _ _
    | cons a l ih =>
      refine ⟨by rw [List.flatMap_cons, List.length_append, ih.1, List.length_cons]; show 2 + _ = _; omega, fun j p hj => ?_⟩
      cases j with
      | zero =>
        obtain rfl : a = p := by simpa using hj
        show k31.M w base _ a ((((encSp a) ++ l.flatMap encSp).drop (0 * 2)).take 2)
        exact k31_mkM _ _ _ a
      | succ j =>
        have := ih.2 j p (by simpa using hj)
        rw [List.flatMap_cons, show (j + 1) * 2 = (encSp a).length + j * 2 by show _ = 2 + _; omega, ← List.drop_drop, List.drop_left]
        exact this
  exact key l
theorem KeepsOthers.of_below {W W' : World} (h : Below W.heap.size W W') : KeepsOthers W W' :=
  ⟨h.size, fun k _ hk _ => (h.block k (lt_of_heap hk)).trans hk⟩
theorem info31_parts : ∃ i, Tryd.prog.info? 31 = some i ∧ i.zero = some (.agg #[.int .i64 0, .int .i64 0]) ∧ i.size = 2 ∧ i.bytes = 16 := by
  have h : (Tryd.prog.info? 31).map (fun i => (i.zero, i.size, i.bytes)) = some (some (.agg #[.int .i64 0, .int .i64 0]), 2, 16) := by kernel_rfl
  cases ho : Tryd.prog.info? 31 with
  | none => rw [ho] at h; cases h
  | some i => rw [ho] at h; simp only [Option.map_some, Option.some.injEq, Prod.mk.injEq] at h; exact ⟨i, rfl, h.1, h.2.1, h.2.2⟩

set_option maxRecDepth 100000 in
set_option maxHeartbeats 4000000 in
theorem read_any (s : ByteArray) (hs : s.size ≤ 1000000) (w : World) (hW : Wd w) :
    Calls Tryd.prog 10 #[.string s] w fun e w' => ∃ v, e = .returned (.tuple #[v, .bool (readP s).2]) ∧ Kd.R k31 31 w' w.heap.size (fun _ => True) v (readP s).1 ∧ Below w.heap.size w w' := by
  obtain ⟨i0, hi, hz0, hz1, hz2⟩ := info31_parts
  obtain ⟨m, hm⟩ := hW.most
  have hgl := World.block_lt_of_cell? w _ hm
  dsimp only at hgl
  refine (callsIn_wide (n := 6)).1 ?_
  have h1 : 1 ≤ 6 := by omega
  refine callsIn_of_wp_marks Tryd.func10 rfl trivial ?_ rfl
  simp only [Tryd.ntmps10, List.size_toArray, List.length_cons, List.length_nil, Nat.reduceAdd, Nat.reduceSub, Array.replicate_succ, Array.replicate_zero, List.push_toArray, List.append_toArray, List.nil_append, List.cons_append]
  have bO := Boxed.new w 23 (.slice none 0 0)
  have hsp := fun W => split_any s W
  gi_wp2_with fail
  refine ⟨trivial, (callsIn_wide.2 (hsp _)).mono ?_⟩
  rintro e w1 ⟨rfl, hw1⟩
  clear hsp
  have hsz1 : w1.heap.size = w.heap.size + 4 := by rw [hw1]; simp
  have hb1 : Below w.heap.size w w1 := by rw [hw1]; exact ((((Below.refl _ w).alloc (Nat.le_refl _) _).alloc (by simp) _).alloc (by simp; omega) _).alloc (by simp; omega) _
  have bO1 : Boxed w1 w.heap.size 23 (.slice none 0 0) := by rw [hw1]; exact ((bO.alloc _).alloc _).alloc _
  have bS1 : Boxed w1 (w.heap.size + 1) 9 (.string s) := by
    rw [hw1]
    have := Boxed.new (w.alloc (.cells #[.slice none 0 0] 23)) 9 (.string s)
    rw [World.size_alloc] at this; exact (this.alloc _).alloc _
  have bP1 : Boxed w1 (w.heap.size + 1 + 1) 9 (.string ⟨#[44]⟩) := by
    rw [hw1]
    have := Boxed.new ((w.alloc (.cells #[.slice none 0 0] 23)).alloc (.cells #[.string s] 9)) 9 (.string ⟨#[44]⟩)
    rw [World.size_alloc, World.size_alloc] at this; exact this.alloc _
  have bZ1 : Boxed w1 (w.heap.size + 1 + 1 + 1) 3 (.int .i64 0) := by
    rw [hw1]
    have := Boxed.new (((w.alloc (.cells #[.slice none 0 0] 23)).alloc (.cells #[.string s] 9)).alloc (.cells #[.string ⟨#[44]⟩] 9)) 3 (.int .i64 0)
    rw [World.size_alloc, World.size_alloc, World.size_alloc] at this; exact this
  clear hw1 bO
  obtain ⟨T, hT⟩ : ∃ T : Nat → Prop, T = (fun k => k = w.heap.size ∨ w.heap.size + 4 ≤ k) := ⟨_, rfl⟩
  obtain ⟨T2, hT2⟩ : ∃ T2 : Nat → Prop, T2 = (fun k => w.heap.size ≤ k) := ⟨_, rfl⟩
  have hTT : ∀ k, T k → T2 k := by rw [hT, hT2]; intro k hk; omega
  have hm1 : w1.cell? ⟨0, 0, none⟩ = some (.int .i64 m) := (Stir.of_below hb1 (fun _ => False)).cell hm (fun e => e)
  have hseq := commas_seq T (w.heap.size + 1 + 1) (w.heap.size + 1) (w.heap.size + 1 + 1 + 1) m (by omega) (by omega) (by omega) (by rw [hT]; omega) (by rw [hT]; omega) (by rw [hT]; omega) (by rw [hT]; omega) 5 (by omega) s (by omega) w1 bP1 bS1 bZ1 hm1
  have hlen := cutB_len s
  clear bP1 bS1 bZ1 hm1
  have hO : ∀ A B, Own1 (w.heap.size + 1) A B → Stir (fun k => k = w.heap.size + 1) A B := fun A B h => h.1
  gi_wp2_with fail
  refine wpIn_rangeFunc_T rfl h1 (gf := 59) (lb := #[.pointer (some ⟨w.heap.size + 1 + 1, 0, none⟩), .pointer (some ⟨w.heap.size + 1, 0, none⟩), .pointer (some ⟨w.heap.size + 1 + 1 + 1, 0, none⟩)]) rfl trivial (enters_of Tryd.func59 (by kernel_rfl) rfl)
    hseq (own1_plain _) stirK_t (stirK_b (by rw [hT]; intro k hk; omega)) (Below.refl _ _) (fun _ => rfl)
    (fun pre W => ((∃ v, Boxed W w.heap.size 23 v ∧ W.ownsRow (w.heap.size + 4) 31 2 v (readL (pre.map (·.1))).length ((readL (pre.map (·.1))).flatMap encSp) ∧ True) ∧ Stir T2 w1 W) ∧ okL (pre.map (·.1)))
    (fun c pre W => ((∃ v, Boxed W w.heap.size 23 v ∧ W.ownsRow (w.heap.size + 4) 31 2 v (readL (pre.map (·.1))).length ((readL (pre.map (·.1))).flatMap encSp) ∧ True) ∧ Stir T2 w1 W) ∧ (c = .exit 0 ∧ ∀ t, readL (pre.map (·.1) ++ t) = readL (pre.map (·.1))))
    (OwnFrom.and (OwnFrom.and (Own.from (holdsRow_own (w.heap.size + 4) w.heap.size 23 31 2 (fun pre : List Pc => (readL (pre.map (·.1))).length) (fun pre => (readL (pre.map (·.1))).flatMap encSp) (fun _ _ => True)) _) (ownFrom_stir w1 (by rw [hT2]; intro k hk; omega))) (ownFrom_pure' _))
    (fun c => OwnFrom.and (OwnFrom.and (Own.from (holdsRow_own (w.heap.size + 4) w.heap.size 23 31 2 (fun pre : List Pc => (readL (pre.map (·.1))).length) (fun pre => (readL (pre.map (·.1))).flatMap encSp) (fun _ _ => True)) _) (ownFrom_stir w1 (by rw [hT2]; intro k hk; omega))) (ownFrom_pure' _)) ?abides ?abidesx
    ⟨⟨⟨_, bO1, World.ownsRow_nil _ _ _ _, trivial⟩, Stir.refl _ _⟩, fun x hx => by cases hx⟩
    (fun x => { tmps := #[.string s, undef, .slice none 0 0, .bool false, .pointer (some ⟨w.heap.size, 0, none⟩), .string x.1, undef, undef, undef, undef, undef, undef, undef, .string s, .func (.func 59) #[] #[.pointer (some ⟨w.heap.size + 1 + 1, 0, none⟩), .pointer (some ⟨w.heap.size + 1, 0, none⟩), .pointer (some ⟨w.heap.size + 1 + 1 + 1, 0, none⟩)], .string x.1, undef, undef, undef, undef, undef, undef, undef, undef, undef, undef, undef, undef, undef, undef, undef, undef, undef, undef, undef, undef, undef, undef, undef, undef, undef, undef, undef, undef, undef, undef, undef, undef, undef, undef, undef, undef, undef, undef, undef, undef, undef], defers := [] }) ?assign ?body ?done ?stop
  case abides =>
    rintro p X Y ⟨⟨⟨v, h1, h2, _⟩, h3⟩, h4⟩ hr
    have hs := hO _ _ hr
    refine ⟨⟨⟨v, boxed_stir h1 hs (by omega), hs.owns h2 (fun k hk => ?_), trivial⟩, h3.trans hs (fun i _ e => by rw [hT2]; omega)⟩, h4⟩
    have := (h2.lt k hk).1
    omega
  case abidesx =>
    rintro c p X Y ⟨⟨⟨v, h1, h2, _⟩, h3⟩, h4⟩ hr
    have hs := hO _ _ hr
    refine ⟨⟨⟨v, boxed_stir h1 hs (by omega), hs.owns h2 (fun k hk => ?_), trivial⟩, h3.trans hs (fun i _ e => by rw [hT2]; omega)⟩, h4⟩
    have := (h2.lt k hk).1
    omega
  case assign =>
    intro l x W K hK
    gi_wp2
    exact hK
  case body =>
    rintro l pre x W ⟨⟨⟨v, hv, hrow, _⟩, hS⟩, hok⟩ hlen2
    have hsz : w1.heap.size ≤ W.heap.size := hS.size
    have hWb : Below w.heap.size w W := hb1.trans (hS.below (by omega) (by rw [hT2]; intro k h; exact h))
    have hWW : Wd W := hW.of hWb
    obtain ⟨m', hm'⟩ := hWW.most
    have hrl := readL_len (pre.map (·.1))
    rw [List.length_map] at hrl
    have hcs := cut_sizes x.1
    have hxs := x.2
    have hTb : ∀ i, w.heap.size + 4 ≤ i → T i := by intro k hk; rw [hT]; exact .inr hk
    have hTB : T w.heap.size := by rw [hT]; exact .inl rfl
    have hCut : Calls Tryd.prog 30 #[.string x.1, .string ⟨#[45]⟩] W fun e w' => e = .returned (.tuple #[.string (cut1 x.1), .string (cut2 x.1), .bool (cutH x.1)]) ∧ ∃ n, w' = W.drewN n := Tryd.strings_Cut x.1 ⟨#[45]⟩ m' W (by omega) hm'
    have hA : ∀ w', Below W.heap.size W w' → _ := fun w' hb => atoi_err (cut1 x.1) (by omega) w' (hWW.of hb)
    have hA2 : ∀ w', Below W.heap.size W w' → _ := fun w' hb => atoi_err (cut2 x.1) (by omega) w' (hWW.of hb)
    have HRL : Hid (∀ sp, oneP x.1 = some sp → readL ((pre ++ [x]).map (·.1)) = readL (pre.map (·.1)) ++ [sp]) := Lib.hid fun sp h => by rw [List.map_append, readL_app _ hok]; show _ ++ readL [x.1] = _; rw [readL, h]; rfl
    have HNO : Hid (oneP x.1 = none → readL ((pre ++ [x]).map (·.1)) = readL (pre.map (·.1))) := Lib.hid fun h => by rw [List.map_append, readL_app _ hok]; show _ ++ readL [x.1] = _; rw [readL, h, List.append_nil]
    have HOK : Hid ((oneP x.1).isSome = true → okL ((pre ++ [x]).map (·.1))) := Lib.hid fun h y hy => by
      rw [List.map_append] at hy
      rcases List.mem_append.1 hy with hy | hy
      · exact hok y hy
      · obtain rfl : y = x.1 := by simpa using hy
        exact h
    have HOKP := Lib.hid hok
    clear hok hm' hWb
    gi_wp2_with fail
    refine ⟨trivial, ((callsIn_wide.2 hCut).inRound l).mono ?_⟩
    rintro e w3 ⟨rfl, nq, hw3⟩
    have hB3 : Below W.heap.size W w3 := by rw [hw3]; exact ((Stir.refl (fun _ => False) W).drewN nq).below (Nat.le_refl _) (fun _ e => e.elim)
    clear hCut hw3
    gi_wp2_with fail
    refine ⟨trivial, ((callsIn_wide.2 (hA _ hB3)).inRound l).mono ?_⟩
    rintro e w4 ⟨ev, rfl, he1, he2, hB4⟩
    have HBX := Lib.hid (hB3.trans (hB4.mono hB3.size))
    clear hA hB3 hB4
    cases hH : cutH x.1 with
    | false =>
      cases ho : atoiO (cut1 x.1) with
      | false =>
        have HP : Hid (oneP x.1 = none) := Lib.hid (by unfold oneP; rw [if_neg (by rw [ho]; simp)])
        obtain ⟨te, pe, rfl⟩ := he2 ho
        clear he1 he2 hA2 ho
        have hv0 := boxed_stir hv (Stir.of_below HBX.out (fun _ => False)) (fun e => e)
        have hrowx := (Stir.of_below HBX.out (fun _ => False)).owns hrow (fun _ _ e => e)
        have Hq := Lib.hid (And.intro hv0 hrowx)
        clear hv hrow hv0 hrowx
        gi_wp2
        obtain ⟨b1, b2⟩ := Hq.out
        refine ⟨(KeepsOthers.of_below HBX.out).from _, ⟨⟨_, b1, ?_, trivial⟩, hS.trans (Stir.of_below HBX.out (fun _ => False)) (fun _ _ e => e.elim)⟩, rfl, ?_⟩
        · rw [HNO.out HP.out]; exact b2
        · intro t; rw [HNO.out HP.out, List.map_append, List.append_assoc, readL_app _ HOKP.out]; show _ ++ readL (x.1 :: t) = _; rw [readL, HP.out, List.append_nil]
      | true =>
        have HP : Hid (oneP x.1 = some ⟨atoiV (cut1 x.1), atoiV (cut1 x.1)⟩) := Lib.hid (by unfold oneP; rw [if_pos ⟨ho, by rw [hH]; simp⟩, hH]; rfl)
        obtain rfl := he1 ho
        clear he1 he2 hA2 ho
        have hv0 := (boxed_stir hv (Stir.of_below HBX.out (fun _ => False)) (fun e => e)).alloc (.cells #[.int .i64 (atoiV (cut1 x.1)), .int .i64 (atoiV (cut1 x.1))] 31)
        have hf0 := hv0.frozen
        have hc := (boxed_stir hv (Stir.of_below HBX.out (fun _ => False)) (fun e => e)).cell
        have hrowx := (Stir.of_below HBX.out (fun _ => False)).owns hrow (fun _ _ e => e)
        have hrow0 := hrowx.kept (World.grownBy_alloc w4 (.cells #[.int .i64 (atoiV (cut1 x.1)), .int .i64 (atoiV (cut1 x.1))] 31) none) (by cases h : v.ownBlock with | none => exact .inl rfl | some _ => exact .inr (by simp))
        have hS0 : Stir T W (w4.alloc (.cells #[.int .i64 (atoiV (cut1 x.1)), .int .i64 (atoiV (cut1 x.1))] 31)) := (Stir.of_below HBX.out T).alloc _
        have hK0 : KeepsOthers W (w4.alloc (.cells #[.int .i64 (atoiV (cut1 x.1)), .int .i64 (atoiV (cut1 x.1))] 31)) := (KeepsOthers.of_below HBX.out).trans (KeepsOthers.alloc _ _)
        have hx : ∀ j u, ([.int .i64 (atoiV (cut1 x.1)), .int .i64 (atoiV (cut1 x.1))] : List Value)[j]? = some u → (w4.alloc (.cells #[.int .i64 (atoiV (cut1 x.1)), .int .i64 (atoiV (cut1 x.1))] 31)).cell? ((⟨w4.heap.size, 0, none⟩ : Addr).add j) = some u := by
          intro j u hj
          match j, hj with
          | 0, hj => cases hj; show (w4.alloc _).cell? ⟨w4.heap.size, 0, none⟩ = _; unfold World.cell?; rw [heap_alloc_new]; rfl
          | 1, hj => cases hj; show (w4.alloc _).cell? ⟨w4.heap.size, 0 + 1, none⟩ = _; unfold World.cell?; rw [heap_alloc_new]; rfl
          | j + 2, hj => simp at hj
        have hzx : w.heap.size + 4 ≤ w4.heap.size := by have := HBX.out.size; omega
        gi_wp2_with (gi_at_builtin; go_loud (refine wpListIn_append_own (w4.alloc (.cells #[.int .i64 (atoiV (cut1 x.1)), .int .i64 (atoiV (cut1 x.1))] 31)) rfl (.tmp 41) (.tmp 45) 23 rfl (w.heap.size + 4) 31 i0 (.agg #[.int .i64 0, .int .i64 0]) 2 16 Tryd.underlying23 hi hz0 hz1 hz2 rfl (by decide) _ _ _ rfl hrow0 ⟨w4.heap.size, 0, none⟩ 1 1 [.int .i64 (atoiV (cut1 x.1)), .int .i64 (atoiV (cut1 x.1))] rfl rfl hx (by intro u hu; simp at hu; rcases hu with rfl | rfl <;> rfl) (by unfold maxLen; omega) (by omega) (by simp; omega) ?_))
        intro v' w7 hown hgrow _
        obtain ⟨b1, b2, b3, b4, b5⟩ := Cav.Boxed.app hv (by decide) hrow hK0 hS0 hv0 hrow0 hTB hTb hown hgrow
        obtain ⟨a3, c3, rfl⟩ := owns_slice hown
        have m1 := b1.cell
        have m2 := b1.frozen
        have Hq := Lib.hid (And.intro b2 (And.intro b3 (And.intro b4 b5)))
        clear hown hgrow hrow b1 b2 b3 b4 b5 hc hv hv0 hrow0 hrowx hS0 hK0 hx hf0 HBX
        gi_wp2
        obtain ⟨b2, b3, b4, b5⟩ := Hq.out
        refine ⟨b4.from _, b5, ⟨⟨_, b2, ?_, trivial⟩, hS.trans b5 (fun i _ e => hTT i e)⟩, ?_⟩
        · rw [HRL.out _ HP.out]
          simpa [encSp] using b3
        · exact HOK.out (by rw [HP.out]; rfl)
    | true =>
      gi_wp2_with fail
      refine ⟨trivial, ((callsIn_wide.2 (hA2 _ HBX.out)).inRound l).mono ?_⟩
      rintro e w5 ⟨ev2, rfl, hg1, hg2, hB5⟩
      have HBY := Lib.hid (HBX.out.trans (hB5.mono HBX.out.size))
      clear HBX hB5 hA2
      have HBX := HBY
      clear HBY
      cases ho : atoiO (cut1 x.1) with
      | false =>
        have HP : Hid (oneP x.1 = none) := Lib.hid (by unfold oneP; rw [if_neg (by rw [ho]; simp)])
        obtain ⟨te, pe, rfl⟩ := he2 ho
        clear he1 he2 hg1 hg2 ho
        have hv0 := boxed_stir hv (Stir.of_below HBX.out (fun _ => False)) (fun e => e)
        have hrowx := (Stir.of_below HBX.out (fun _ => False)).owns hrow (fun _ _ e => e)
        have Hq := Lib.hid (And.intro hv0 hrowx)
        clear hv hrow hv0 hrowx
        gi_wp2
        obtain ⟨b1, b2⟩ := Hq.out
        refine ⟨(KeepsOthers.of_below HBX.out).from _, ⟨⟨_, b1, ?_, trivial⟩, hS.trans (Stir.of_below HBX.out (fun _ => False)) (fun _ _ e => e.elim)⟩, rfl, ?_⟩
        · rw [HNO.out HP.out]; exact b2
        · intro t; rw [HNO.out HP.out, List.map_append, List.append_assoc, readL_app _ HOKP.out]; show _ ++ readL (x.1 :: t) = _; rw [readL, HP.out, List.append_nil]
      | true =>
        obtain rfl := he1 ho
        cases ho2 : atoiO (cut2 x.1) with
        | false =>
          have HP : Hid (oneP x.1 = none) := Lib.hid (by unfold oneP; rw [if_neg (by rw [hH, ho2]; simp)])
          obtain ⟨te, pe, rfl⟩ := hg2 ho2
          clear he1 he2 hg1 hg2 ho ho2
          have hv0 := boxed_stir hv (Stir.of_below HBX.out (fun _ => False)) (fun e => e)
          have hrowx := (Stir.of_below HBX.out (fun _ => False)).owns hrow (fun _ _ e => e)
          have Hq := Lib.hid (And.intro hv0 hrowx)
          clear hv hrow hv0 hrowx
          gi_wp2
          obtain ⟨b1, b2⟩ := Hq.out
          refine ⟨(KeepsOthers.of_below HBX.out).from _, ⟨⟨_, b1, ?_, trivial⟩, hS.trans (Stir.of_below HBX.out (fun _ => False)) (fun _ _ e => e.elim)⟩, rfl, ?_⟩
          · rw [HNO.out HP.out]; exact b2
          · intro t; rw [HNO.out HP.out, List.map_append, List.append_assoc, readL_app _ HOKP.out]; show _ ++ readL (x.1 :: t) = _; rw [readL, HP.out, List.append_nil]
        | true =>
          have HP : Hid (oneP x.1 = some ⟨atoiV (cut1 x.1), atoiV (cut2 x.1)⟩) := Lib.hid (by unfold oneP; rw [if_pos ⟨ho, fun _ => ho2⟩, hH]; rfl)
          obtain rfl := hg1 ho2
          clear he1 he2 hg1 hg2 ho ho2
          have hv0 := (boxed_stir hv (Stir.of_below HBX.out (fun _ => False)) (fun e => e)).alloc (.cells #[.int .i64 (atoiV (cut1 x.1)), .int .i64 (atoiV (cut2 x.1))] 31)
          have hf0 := hv0.frozen
          have hc := (boxed_stir hv (Stir.of_below HBX.out (fun _ => False)) (fun e => e)).cell
          have hrowx := (Stir.of_below HBX.out (fun _ => False)).owns hrow (fun _ _ e => e)
          have hrow0 := hrowx.kept (World.grownBy_alloc w5 (.cells #[.int .i64 (atoiV (cut1 x.1)), .int .i64 (atoiV (cut2 x.1))] 31) none) (by cases h : v.ownBlock with | none => exact .inl rfl | some _ => exact .inr (by simp))
          have hS0 : Stir T W (w5.alloc (.cells #[.int .i64 (atoiV (cut1 x.1)), .int .i64 (atoiV (cut2 x.1))] 31)) := (Stir.of_below HBX.out T).alloc _
          have hK0 : KeepsOthers W (w5.alloc (.cells #[.int .i64 (atoiV (cut1 x.1)), .int .i64 (atoiV (cut2 x.1))] 31)) := (KeepsOthers.of_below HBX.out).trans (KeepsOthers.alloc _ _)
          have hx : ∀ j u, ([.int .i64 (atoiV (cut1 x.1)), .int .i64 (atoiV (cut2 x.1))] : List Value)[j]? = some u → (w5.alloc (.cells #[.int .i64 (atoiV (cut1 x.1)), .int .i64 (atoiV (cut2 x.1))] 31)).cell? ((⟨w5.heap.size, 0, none⟩ : Addr).add j) = some u := by
            intro j u hj
            match j, hj with
            | 0, hj => cases hj; show (w5.alloc _).cell? ⟨w5.heap.size, 0, none⟩ = _; unfold World.cell?; rw [heap_alloc_new]; rfl
            | 1, hj => cases hj; show (w5.alloc _).cell? ⟨w5.heap.size, 0 + 1, none⟩ = _; unfold World.cell?; rw [heap_alloc_new]; rfl
            | j + 2, hj => simp at hj
          have hzx : w.heap.size + 4 ≤ w5.heap.size := by have := HBX.out.size; omega
          gi_wp2_with (gi_at_builtin; go_loud (refine wpListIn_append_own (w5.alloc (.cells #[.int .i64 (atoiV (cut1 x.1)), .int .i64 (atoiV (cut2 x.1))] 31)) rfl (.tmp 41) (.tmp 45) 23 rfl (w.heap.size + 4) 31 i0 (.agg #[.int .i64 0, .int .i64 0]) 2 16 Tryd.underlying23 hi hz0 hz1 hz2 rfl (by decide) _ _ _ rfl hrow0 ⟨w5.heap.size, 0, none⟩ 1 1 [.int .i64 (atoiV (cut1 x.1)), .int .i64 (atoiV (cut2 x.1))] rfl rfl hx (by intro u hu; simp at hu; rcases hu with rfl | rfl <;> rfl) (by unfold maxLen; omega) (by omega) (by simp; omega) ?_))
          intro v' w7 hown hgrow _
          obtain ⟨b1, b2, b3, b4, b5⟩ := Cav.Boxed.app hv (by decide) hrow hK0 hS0 hv0 hrow0 hTB hTb hown hgrow
          obtain ⟨a3, c3, rfl⟩ := owns_slice hown
          have m1 := b1.cell
          have m2 := b1.frozen
          have Hq := Lib.hid (And.intro b2 (And.intro b3 (And.intro b4 b5)))
          clear hown hgrow hrow b1 b2 b3 b4 b5 hc hv hv0 hrow0 hrowx hS0 hK0 hx hf0 HBX
          gi_wp2
          obtain ⟨b2, b3, b4, b5⟩ := Hq.out
          refine ⟨b4.from _, b5, ⟨⟨_, b2, ?_, trivial⟩, hS.trans b5 (fun i _ e => hTT i e)⟩, ?_⟩
          · rw [HRL.out _ HP.out]
            simpa [encSp] using b3
          · exact HOK.out (by rw [HP.out]; rfl)
  case done =>
    rintro D ys W W0 hD hxs hWe ⟨⟨⟨v, hv, hrow, _⟩, hS⟩, hok⟩ hK
    have hl : readL (cutB s) = readL (ys.map (·.1)) := by rw [show ys.map (·.1) = cutB s from hxs]
    have hsz : w1.heap.size ≤ W.heap.size := hS.size
    have hWb : Below w.heap.size w W := hb1.trans (hS.below (by omega) (by rw [hT2]; intro k h; exact h))
    have hWW : Wd W := hW.of hWb
    have hLl := readL_len (cutB s)
    have HRP : Hid (readP s = if mayB (readL (cutB s)) = true ∧ textS (readL (cutB s)) = s then (readL (cutB s), true) else ([], false)) := Lib.hid rfl
    rw [← hl] at hrow
    generalize readL (cutB s) = L at hrow hLl HRP
    have HFIN : Hid (∀ w4, Below W.heap.size W w4 → w4.heap[D]? = some (.deferred (some [])) ∧ Below w.heap.size w (w4.putObj D (.deferred none)) ∧ Kd.R k31 31 (w4.putObj D (.deferred none)) w.heap.size (fun _ => True) v L) := Lib.hid fun w4 hb => by
      have hK4 : w4.heap[D]? = some (.deferred (some [])) := (hb.block D (lt_of_heap hK)).trans hK
      refine ⟨hK4, hb1.trans (((hS.trans (Stir.of_below hb (fun _ => False)) (fun _ _ e => e.elim)).trans (stirK_b (T := T2) (w := w1) (by rw [hT2]; intro k hk; omega) w4 D _ (.deferred none) (by omega) hK4 rfl rfl) (fun _ _ e => e)).below (by omega) (by rw [hT2]; intro k h; omega)), Kd.R_lower (R_cells (((Stir.of_below hb (fun _ => False)).owns hrow (fun _ _ e => e)).kept (grownBy_putObj' w4 D _) ?_)) (by omega)⟩
      cases hv' : v.ownBlock with
      | none => exact .inl rfl
      | some k =>
        refine .inr fun e' => ?_
        obtain rfl : k = D := by simpa using e'
        obtain ⟨cells, hcells⟩ := own_typed hrow k hv'
        rw [hK] at hcells; cases hcells
    obtain ⟨A, c, rfl⟩ := owns_slice hrow
    have hrd := Kd.R_reads' (R_cells hrow)
    have hMay := may_any A c L W hrd.2.2 hrd.2.1 (by omega)
    have hTx : ∀ w', Below W.heap.size W w' → _ := fun w' hb => text_any A c L w' (Kd.C_below hrd.2.2 hb) hrd.2.1 (by omega) (hWW.of hb)
    have hc := hv.cell
    clear hv hrow hrd hS hK hl hxs hWe hok hsz hWb hWW
    gi_wp2_with fail
    refine ⟨trivial, (callsIn_wide.2 hMay).mono ?_⟩
    rintro e w3 ⟨rfl, hB3⟩
    have hc3 := (Stir.of_below hB3 (fun _ => False)).cell hc (fun e => e)
    clear hc hMay
    have HB3 := Lib.hid hB3
    cases hmb : mayB L with
    | false =>
      clear hTx hB3
      gi_wp2_with fail
      refine ⟨trivial, ?_⟩
      gi_wp2
      obtain ⟨hK4, hB4, _⟩ := HFIN.out _ HB3.out
      refine ⟨by simp, .inl ⟨_, _, rfl, run_takeDeferred hK4, ?_⟩⟩
      rw [HRP.out, if_neg (by rw [hmb]; simp)]
      exact ⟨_, results_tmp2 rfl _ _ _, _, rfl, Kd.R_nil _ _ _ _ _, hB4⟩
    | true =>
      gi_wp2_with fail
      refine ⟨trivial, (callsIn_wide.2 (hTx _ hB3)).mono ?_⟩
      rintro e w4 ⟨rfl, hB4⟩
      have hc4 := (Stir.of_below hB4 (fun _ => False)).cell hc3 (fun e => e)
      have HB4 := Lib.hid (HB3.out.trans (hB4.mono HB3.out.size))
      clear hTx hB3 hB4 hc3
      by_cases hts : textS L = s
      · have hq : ((textS L).toList == s.toList) = true := by rw [hts]; simp
        rw [hts] at hq ⊢
        gi_wp2
        obtain ⟨hK4, hB4, hR4⟩ := HFIN.out _ HB4.out
        refine ⟨by simp, .inl ⟨_, _, rfl, run_takeDeferred hK4, ?_⟩⟩
        rw [HRP.out, if_pos ⟨hmb, hts⟩]
        exact ⟨_, results_tmp2 rfl _ _ _, _, rfl, hR4, hB4⟩
      · have hq : ((textS L).toList == s.toList) = false := by rw [beq_eq_false_iff_ne]; exact fun h => hts (Go.Pk.toList_inj h)
        gi_wp2
        obtain ⟨hK4, hB4, _⟩ := HFIN.out _ HB4.out
        refine ⟨by simp, .inl ⟨_, _, rfl, run_takeDeferred hK4, ?_⟩⟩
        rw [HRP.out, if_neg (fun h => hts h.2)]
        exact ⟨_, results_tmp2 rfl _ _ _, _, rfl, Kd.R_nil _ _ _ _ _, hB4⟩
  case stop =>
    rintro D c pre W W0 hD hpre ⟨⟨⟨v, hv, hrow, _⟩, hS⟩, rfl, hst⟩ hK
    have hl : readL (cutB s) = readL (pre.map (·.1)) := by
      obtain ⟨t, ht⟩ := (show pre.map (·.1) <+: cutB s from hpre)
      rw [← ht]; exact hst t
    have hsz : w1.heap.size ≤ W.heap.size := hS.size
    have hWb : Below w.heap.size w W := hb1.trans (hS.below (by omega) (by rw [hT2]; intro k h; exact h))
    have hWW : Wd W := hW.of hWb
    have hLl := readL_len (cutB s)
    have HRP : Hid (readP s = if mayB (readL (cutB s)) = true ∧ textS (readL (cutB s)) = s then (readL (cutB s), true) else ([], false)) := Lib.hid rfl
    rw [← hl] at hrow
    generalize readL (cutB s) = L at hrow hLl HRP
    have HFIN : Hid (∀ w4, Below W.heap.size W w4 → w4.heap[D]? = some (.deferred (some [])) ∧ Below w.heap.size w (w4.putObj D (.deferred none)) ∧ Kd.R k31 31 (w4.putObj D (.deferred none)) w.heap.size (fun _ => True) v L) := Lib.hid fun w4 hb => by
      have hK4 : w4.heap[D]? = some (.deferred (some [])) := (hb.block D (lt_of_heap hK)).trans hK
      refine ⟨hK4, hb1.trans (((hS.trans (Stir.of_below hb (fun _ => False)) (fun _ _ e => e.elim)).trans (stirK_b (T := T2) (w := w1) (by rw [hT2]; intro k hk; omega) w4 D _ (.deferred none) (by omega) hK4 rfl rfl) (fun _ _ e => e)).below (by omega) (by rw [hT2]; intro k h; omega)), Kd.R_lower (R_cells (((Stir.of_below hb (fun _ => False)).owns hrow (fun _ _ e => e)).kept (grownBy_putObj' w4 D _) ?_)) (by omega)⟩
      cases hv' : v.ownBlock with
      | none => exact .inl rfl
      | some k =>
        refine .inr fun e' => ?_
        obtain rfl : k = D := by simpa using e'
        obtain ⟨cells, hcells⟩ := own_typed hrow k hv'
        rw [hK] at hcells; cases hcells
    obtain ⟨A, c, rfl⟩ := owns_slice hrow
    have hrd := Kd.R_reads' (R_cells hrow)
    have hMay := may_any A c L W hrd.2.2 hrd.2.1 (by omega)
    have hTx : ∀ w', Below W.heap.size W w' → _ := fun w' hb => text_any A c L w' (Kd.C_below hrd.2.2 hb) hrd.2.1 (by omega) (hWW.of hb)
    have hc := hv.cell
    clear hv hrow hrd hS hK hl hpre hst hsz hWb hWW
    gi_wp2_with fail
    refine ⟨trivial, (callsIn_wide.2 hMay).mono ?_⟩
    rintro e w3 ⟨rfl, hB3⟩
    have hc3 := (Stir.of_below hB3 (fun _ => False)).cell hc (fun e => e)
    clear hc hMay
    have HB3 := Lib.hid hB3
    cases hmb : mayB L with
    | false =>
      clear hTx hB3
      gi_wp2_with fail
      refine ⟨trivial, ?_⟩
      gi_wp2
      obtain ⟨hK4, hB4, _⟩ := HFIN.out _ HB3.out
      refine ⟨by simp, .inl ⟨_, _, rfl, run_takeDeferred hK4, ?_⟩⟩
      rw [HRP.out, if_neg (by rw [hmb]; simp)]
      exact ⟨_, results_tmp2 rfl _ _ _, _, rfl, Kd.R_nil _ _ _ _ _, hB4⟩
    | true =>
      gi_wp2_with fail
      refine ⟨trivial, (callsIn_wide.2 (hTx _ hB3)).mono ?_⟩
      rintro e w4 ⟨rfl, hB4⟩
      have hc4 := (Stir.of_below hB4 (fun _ => False)).cell hc3 (fun e => e)
      have HB4 := Lib.hid (HB3.out.trans (hB4.mono HB3.out.size))
      clear hTx hB3 hB4 hc3
      by_cases hts : textS L = s
      · have hq : ((textS L).toList == s.toList) = true := by rw [hts]; simp
        rw [hts] at hq ⊢
        gi_wp2
        obtain ⟨hK4, hB4, hR4⟩ := HFIN.out _ HB4.out
        refine ⟨by simp, .inl ⟨_, _, rfl, run_takeDeferred hK4, ?_⟩⟩
        rw [HRP.out, if_pos ⟨hmb, hts⟩]
        exact ⟨_, results_tmp2 rfl _ _ _, _, rfl, hR4, hB4⟩
      · have hq : ((textS L).toList == s.toList) = false := by rw [beq_eq_false_iff_ne]; exact fun h => hts (Go.Pk.toList_inj h)
        gi_wp2
        obtain ⟨hK4, hB4, _⟩ := HFIN.out _ HB4.out
        refine ⟨by simp, .inl ⟨_, _, rfl, run_takeDeferred hK4, ?_⟩⟩
        rw [HRP.out, if_neg (fun h => hts h.2)]
        exact ⟨_, results_tmp2 rfl _ _ _, _, rfl, Kd.R_nil _ _ _ _ _, hB4⟩
end Go.Proofs.YtnlakdpfkgjdaaaDoor.G
