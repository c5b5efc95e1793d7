/- A range over a function whose iterator writes cells of its own between two rounds: a law of no program, over the kit's laws of the loop's record. No conditions. -/
import Derived.Test.YtnlakdpfkgjdaaaDoorCavC
namespace Go.Cav
open Go Go.RowKit

/-- AN ITERATOR AND THE STEPS THAT IT TAKES BY ITSELF: Rs A B: between two rounds it may turn A into B; what the caller carries must bear that. S, Sp speak of the world behind, too. -/
def SeqT {α : Type} (F : Fence) (n : Nat) (P : Program) (g : Nat) (lb : Array Value) (encs : α → Array Value) (Kp Rs : World → World → Prop) (S Sp : List α → World → Prop) (N : Nat) (w : World) : Prop :=
  ∀ (l : Nat) (J Jx : List α → World → Prop) (W : World), Below w.heap.size w W → (∀ s A B, J s A → Rs A B → J s B) → (∀ s A B, Jx s A → Rs A B → Jx s B) →
    (∀ pre x W1, J pre W1 → pre.length < N → YieldAt F (n - 1) P l (encs x) W1 fun e W' =>
      (e = .returned (.bool true) ∧ J (pre ++ [x]) W' ∧ Kp W1 W') ∨ (e = .returned (.bool false) ∧ Jx (pre ++ [x]) W')) →
    J [] W →
    CallsIn F n P g (#[.func (.yield l) #[] #[]] ++ lb) W fun e W' => (∃ v, e = .returned v) ∧ ((∃ xs, S xs W' ∧ J xs W') ∨ (∃ pre, Sp pre W' ∧ Jx pre W'))

/-- a step of the iterator's leaves alone what is neither cells nor a walk's object -/
def Plain (Rs : World → World → Prop) : Prop := ∀ (A B : World) (i : Nat) (o : Obj), Rs A B → A.heap[i]? = some o → o.isCells = false → o.isWalk = false → B.heap[i]? = some o

variable {F : Fence} {n : Nat} {P : Program}

theorem wpIn_rangeFunc_T {α : Type} {g : Operand} {ps : Array Tmp} {assign body : Code} {Q : Exit → Act → World → Prop} {a : Act} {w : World}
    (hro : F.round = none) (h1 : 1 ≤ n) {gf : Nat} {lb : Array Value} (hg : a.eval g = .func (.func gf) #[] lb) (hFg : F.fn gf) (eg : ∀ args w, (callFunc gf args).run P w = .ok (.enter gf args) w)
    {encs : α → Array Value} {Kp Rs : World → World → Prop} {S Sp : List α → World → Prop} {N : Nat} {w0 : World} (hseq : SeqT F (n - 1) P gf lb encs Kp Rs S Sp N w0) (hRs : Plain Rs)
    (hKt : ∀ {A B C : World}, Kp A B → Kp B C → Kp A C) (hKb : ∀ (W : World) (l : Nat) (o o' : Obj), w.heap.size ≤ l → W.heap[l]? = some o → o.isCells = false → o.isWalk = false → Kp W (W.putObj l o')) (hb0 : Below w0.heap.size w0 w) (hps : ∀ x, (encs x).size = ps.size)
    (I : List α → World → Prop) (Ix : Code → List α → World → Prop) (hI : OwnFrom w.heap.size I) (hIx : ∀ c, OwnFrom w.heap.size (Ix c)) (hIR : ∀ s A B, I s A → Rs A B → I s B) (hIxR : ∀ c s A B, Ix c s A → Rs A B → Ix c s B) (h0 : I [] w) (a₁ : α → Act)
    (hassign : ∀ (l : Nat) (x : α) (W : World) (K : Act → World → Prop), K (a₁ x) W →
      assign.wpIn (F.inRound l) (n - 1 - 1) P (Exit.then K (fun _ _ _ => False)) { tmps := (ps.zip (encs x)).foldl (fun t (p, v) => t.setIfInBounds p v) a.tmps, defers := [] } W)
    (hbody : ∀ (l : Nat) (pre : List α) (x : α) (W : World), I pre W → pre.length < N → body.wpIn (F.inRound l) (n - 1 - 1) P (ownPostG w.heap.size Kp I Ix (pre ++ [x]) W) (a₁ x) W)
    (hdone : ∀ (D : Nat) (xs : List α) (W W0 : World), w.heap.size ≤ D → S xs W0 → W = W0.putObj (D + 1) (W.heap.getD (D + 1) (.deferred none)) → I xs W → W.heap[D]? = some (.deferred (some [])) → Q .normal { a with defers := { target := .collected D, args := #[] } :: a.defers } W)
    (hstop : ∀ (D : Nat) (c : Code) (pre : List α) (W W0 : World), w.heap.size ≤ D → Sp pre W0 → Ix c pre W → W.heap[D]? = some (.deferred (some [])) → c.wpIn F n P Q { a with defers := { target := .collected D, args := #[] } :: a.defers } W) :
    (Code.rangeFunc g ps assign body).wpIn F n P Q a w := by
  refine wpIn_rangeFunc fun fn hfn => ?_
  rw [hro]
  obtain ⟨L, hL⟩ : ∃ L, L = w.heap.size + 1 := ⟨_, rfl⟩
  obtain ⟨rec, hrec⟩ : ∃ rec : LoopState → Option Code → Loop, rec = fun st pe => { state := st, pending := pe, fn, tmps := a.tmps, params := ps, assign, body, defers := w.heap.size } := ⟨_, rfl⟩
  obtain ⟨V, hV⟩ : ∃ V, (w.alloc (.deferred (some []))).alloc (.loop (rec .ready none)) = V := ⟨_, rfl⟩
  have vL : V.heap[L]? = some (.loop (rec .ready none)) := by
    rw [← hV, hL]; have := World.alloc_heap_new (w.alloc (.deferred (some []))) (.loop (rec .ready none)); rwa [World.size_alloc] at this
  have vK : V.heap[w.heap.size]? = some (.deferred (some [])) := by
    rw [← hV]; exact (Below.heap_alloc _ _ _ (by simp)).trans (World.alloc_heap_new w _)
  have vI : I [] V := by rw [← hV]; exact hI.alloc _ (hI.alloc _ h0)
  have vb : Below w0.heap.size w0 V := by
    rw [← hV]; exact hb0.trans ((((Below.refl _ w).alloc (Nat.le_refl _) _).alloc (by simp) _).mono hb0.size)
  refine ⟨L, [{ target := .collected w.heap.size, args := #[] }], V, { target := .fn (.func gf) lb, args := #[.func (.yield L) #[] #[]] }, V, gf, #[.func (.yield L) #[] #[]] ++ lb, V, ?_, ?_, ?_, ?_, fun _ => h1, ?_⟩
  · rw [← hV, hrec, hL]; exact run_enterLoop_outer _ _ _ _ _
  · simp only [resolve, hg]
    simp [go_sem]
  · intro f' hf'; simp [Target.leads] at hf'; subst hf'; exact hFg
  · simp [invoke, go_sem, eg]
  refine (hseq L (fun pre W => I pre W ∧ W.heap[L]? = some (.loop (rec .ready none)) ∧ W.heap[w.heap.size]? = some (.deferred (some [])))
    (fun pre W => ∃ c, Ix c pre W ∧ W.heap[L]? = some (.loop (rec .done (some c))) ∧ W.heap[w.heap.size]? = some (.deferred (some [])))
    V vb (fun s A B hs hr => ⟨hIR s A B hs.1 hr, hRs A B _ _ hr hs.2.1 rfl rfl, hRs A B _ _ hr hs.2.2 rfl rfl⟩)
    (fun s A B ⟨c, hc, hl, hk⟩ hr => ⟨c, hIxR c s A B hc hr, hRs A B _ _ hr hl rfl rfl, hRs A B _ _ hr hk rfl rfl⟩) ?_ ⟨vI, vL, vK⟩).mono ?_
  · rintro pre x W ⟨hi, hl, hk⟩ hlen
    have hlt : L < W.heap.size := (Array.getElem?_eq_some_iff.1 hl).1
    have hy := run_yield (P := P) (args := encs x) hl (by rw [hrec]; exact hps x)
    rw [hrec] at hy
    refine ⟨fn, _, assign, body, hy, roundIn_of_wpIn hfn (hassign _ x W _ ⟨_, run_beginRound hl (by rw [hrec]), ?_⟩)⟩
    obtain ⟨B, hB⟩ : ∃ B, W.putObj L (.loop { rec .ready none with state := .busy }) = B := ⟨_, rfl⟩
    have bL : B.heap[L]? = some (.loop { rec .ready none with state := .busy }) := by rw [← hB]; exact World.putObj_heap_same hlt
    have bK : B.heap[w.heap.size]? = some (.deferred (some [])) := by rw [← hB]; exact (World.putObj_heap_other (by omega)).trans hk
    have bP : Kp W B := by rw [← hB]; exact hKb _ _ _ _ (by omega) hl rfl rfl
    have bI : I pre B := by rw [← hB]; exact hI.putObj _ hi (by omega) hl rfl
    rw [hB]
    refine wpIn_mono (hbody _ pre x B bI hlen) ?_
    have fin : ∀ (jump : Option Code) (Z : World), KeepsFrom w.heap.size B Z →
        (Instr.endRound L jump).run P Z = .ok (.bool jump.isNone) (Z.putObj L (.loop (rec (if jump.isNone then .ready else .done) jump))) ∧ Z.heap[L]? = some (.loop { rec .ready none with state := .busy }) ∧
        (Z.putObj L (.loop (rec (if jump.isNone then .ready else .done) jump))).heap[L]? = some (.loop (rec (if jump.isNone then .ready else .done) jump)) ∧
        (Z.putObj L (.loop (rec (if jump.isNone then .ready else .done) jump))).heap[w.heap.size]? = some (.deferred (some [])) := by
      intro jump Z hz
      have zL := hz.same _ _ (by omega) bL rfl
      have hend := run_endRound (P := P) jump zL
      rw [hrec] at hend ⊢
      exact ⟨hend, by rw [hrec] at zL; exact zL, World.putObj_heap_same (Array.getElem?_eq_some_iff.1 zL).1, (World.putObj_heap_other (by omega)).trans (hz.same _ _ (Nat.le_refl _) bK rfl)⟩
    rintro e a3 Z hp
    cases e with
    | normal =>
      obtain ⟨hz, hkp, hi3⟩ := hp
      obtain ⟨hr, zL, zL2, zK⟩ := fin none Z hz
      exact ⟨_, _, hr, .inl ⟨rfl, ⟨hI.putObj _ hi3 (by omega) zL rfl, zL2, zK⟩, hKt (hKt bP hkp) (hKb _ _ _ _ (by omega) zL rfl rfl)⟩⟩
    | ret =>
      obtain ⟨hr, zL, zL2, zK⟩ := fin (some .ret) Z hp.1
      exact ⟨_, _, hr, .inr ⟨rfl, .ret, (hIx _).putObj _ hp.2 (by omega) zL rfl, zL2, zK⟩⟩
    | exit id =>
      obtain ⟨hr, zL, zL2, zK⟩ := fin (some (.exit id)) Z hp.1
      exact ⟨_, _, hr, .inr ⟨rfl, .exit id, (hIx _).putObj _ hp.2 (by omega) zL rfl, zL2, zK⟩⟩
    | goto t =>
      obtain ⟨hr, zL, zL2, zK⟩ := fin (some (.goto t)) Z hp.1
      exact ⟨_, _, hr, .inr ⟨rfl, .goto t, (hIx _).putObj _ hp.2 (by omega) zL rfl, zL2, zK⟩⟩
    | panic ch => exact hp.elim
    | outgrown => exact hp.elim
  · rintro e Z ⟨⟨v, rfl⟩, (⟨xs, hS, hi, hl, hk⟩ | ⟨pre, hSp, c, hi, hl, hk⟩)⟩
    · have hend := run_endLoop (P := P) hl (by rw [hrec]; simp)
      rw [hrec] at hend
      refine ⟨none, _, hend, ?_⟩
      refine hdone _ xs _ Z (Nat.le_refl _) hS ?_ (hI.putObj _ hi (by omega) hl rfl) ((World.putObj_heap_other (by omega)).trans hk)
      rw [← hL]
      congr 1
      rw [Array.getD_eq_getD_getElem?, World.putObj_heap_same (Array.getElem?_eq_some_iff.1 hl).1]; rfl
    · have hend := run_endLoop (P := P) hl (by rw [hrec]; simp)
      rw [hrec] at hend
      exact ⟨some c, _, hend, hstop _ c pre _ Z (Nat.le_refl _) hSp ((hIx c).putObj _ hi (by omega) hl rfl) ((World.putObj_heap_other (by omega)).trans hk)⟩
end Go.Cav
