/- What Names comes to: the iterator 'all' at a body that appends, a relation that tells blocks by their type. No conditions. -/
import Derived.Test.YtjdpmjpfhcdcfaaFi
import Derived.Test.YtjdpmjpfhcdcfaaCo
namespace Go.Proofs.Ytjdpmjpfhcdcfaa
open Go.RowKit Go.Shelf Go.Cav
attribute [local go_sem] Oper.semAt_some

/-- Of the old blocks of cells, only those in T and those of one type may have changed; of all below B only those in T. -/
structure StirT (B : Nat) (ty : TypeId) (T : Nat → Prop) (w w' : World) : Prop where
  os : w'.os = w.os
  tape : w'.tape = w.tape
  output : w'.output = w.output
  size : w.heap.size ≤ w'.heap.size
  block : ∀ i cs t fr, w.heap[i]? = some (.cells cs t fr) → t ≠ ty → ¬ T i → w'.heap[i]? = some (.cells cs t fr)
  old : ∀ i, i < B → i < w.heap.size → ¬ T i → w'.heap[i]? = w.heap[i]?
section
variable {B : Nat} {ty : TypeId} {T : Nat → Prop}
theorem StirT.refl (B : Nat) (ty : TypeId) (T : Nat → Prop) (w : World) : StirT B ty T w w := ⟨rfl, rfl, rfl, Nat.le_refl _, fun _ _ _ _ h _ _ => h, fun _ _ _ _ => rfl⟩
theorem StirT.trans {a b c : World} (h : StirT B ty T a b) (k : StirT B ty T b c) : StirT B ty T a c :=
  ⟨k.os.trans h.os, k.tape.trans h.tape, k.output.trans h.output, Nat.le_trans h.size k.size, fun i cs t fr ho hc hn => k.block i cs t fr (h.block i cs t fr ho hc hn) hc hn,
   fun i hi hl hn => (k.old i hi (Nat.lt_of_lt_of_le hl h.size) hn).trans (h.old i hi hl hn)⟩
theorem stirT_t {a b c : World} (h : StirT B ty T a b) (k : StirT B ty T b c) : StirT B ty T a c := h.trans k
theorem StirT.of_stir {S : Nat → Prop} {a b : World} (h : Stir S a b) (hs : ∀ i, S i → T i) : StirT B ty T a b :=
  ⟨h.os, h.tape, h.output, h.size, fun i _ _ _ ho _ hn => (h.block i (lt_of_heap ho) (fun e => hn (hs i e))).trans ho, fun i _ hl hn => h.block i hl (fun e => hn (hs i e))⟩
theorem StirT.alloc {a b : World} (h : StirT B ty T a b) (o : Obj) : StirT B ty T a (b.alloc o) := h.trans (StirT.of_stir ((Stir.refl (fun _ => False) b).alloc o) (fun _ e => e.elim))
theorem StirT.cell {a b : World} (h : StirT B ty T a b) {p : Addr} {v : Value} (hc : a.cell? p = some v) {cs : Array Value} {t : TypeId} {fr : Nat × Nat} (ho : a.heap[p.block]? = some (.cells cs t fr)) (hty : t ≠ ty) (hn : ¬ T p.block) : b.cell? p = some v :=
  (World.cell?_of_block ((h.block _ cs t fr ho hty hn).trans ho.symm)).trans hc
theorem StirT.grown {a b c : World} {row : Option Nat} (h : StirT B ty T a b) (hg : b.grownBy c row) (hr : ∀ r, row = some r → B ≤ r ∧ ∃ o : Obj, b.heap[r]? = some o ∧ o.isCells = false) : StirT B ty T a c :=
  h.trans ⟨hg.os, hg.tape, hg.output, hg.size, fun i cs t fr hq _ _ => by
    by_cases hi : some i = row
    · obtain ⟨_, o, ho, hc⟩ := hr i hi.symm
      rw [hq] at ho; cases ho; cases hc
    · exact (hg.block i (lt_of_heap hq) hi).trans hq,
   fun i hi hl _ => hg.block i hl (fun e => by have := (hr i e.symm).1; omega)⟩
theorem stirT_b (W : World) (l : Nat) (o o' : Obj) (hl : B ≤ l) (ho : W.heap[l]? = some o) (hc : o.isCells = false) : StirT B ty T W (W.putObj l o') :=
  (StirT.refl B ty T W).grown (grownBy_putObj' W l o') (fun r e => by cases e; exact ⟨hl, o, ho, hc⟩)
theorem ownFrom_stirT {β : Type} {B' : Nat} (w : World) (hB : B ≤ B') : OwnFrom (β := β) B' (fun _ W => StirT B ty T w W) :=
  fun _ _ _ _ hs hg hr => hs.grown hg (fun r e => ⟨Nat.le_trans hB (hr r e).1, (hr r e).2⟩)
theorem StirT.below {a b c : World} (h : StirT B ty T b c) (h0 : Below B a b) (hB : B ≤ b.heap.size) (hT : ∀ k, T k → B ≤ k) : Below B a c :=
  h0.trans ⟨h.os, h.tape, h.output, h.size, fun i hi => h.old i hi (by omega) (fun e => by have := hT i e; omega)⟩
/-- a row of the one type that grows -/
theorem StirT.grow_row {a b : World} {base size : Nat} {v : Value} {n : Nat} {xs : List Value} (ho : a.ownsRow base ty size v n xs) (hB : B ≤ base) (hg : a.grownBy b v.ownBlock) : StirT B ty T a b := by
  refine ⟨hg.os, hg.tape, hg.output, hg.size, fun i cs t fr hq hty _ => ?_, fun i hi hl _ => hg.block i hl (fun e => ?_)⟩
  · refine (hg.block i (lt_of_heap hq) (fun e => ?_)).trans hq
    rcases ho.2 with ⟨rfl, _⟩ | ⟨g, cap, cur, rfl, _, hgb, _⟩
    · simp [Value.ownBlock] at e
    · have e2 : g = i := by simpa [Value.ownBlock] using e.symm
      subst e2; rw [hq] at hgb; cases hgb; exact hty rfl
  · rcases ho.2 with ⟨rfl, _⟩ | ⟨g, cap, cur, rfl, hb, _, _⟩
    · simp [Value.ownBlock] at e
    · have e2 : g = i := by simpa [Value.ownBlock] using e.symm
      omega
end
theorem specs_at2 (w : World) : Calls Try.prog 30 #[] w fun e w' => ∃ ad, e = .returned (.slice (some ad) 54 54) ∧ ad.block = w.heap.size ∧ w.grownBy w' none ∧ Below w.heap.size w w' ∧ SpecsAt w' ad ∧ ∃ sc, w'.heap[ad.block]? = some (.cells sc 26 (0, 0)) := by
  refine (specs_calls w).mono ?_
  rintro e w' ⟨rfl, rfl⟩
  refine ⟨_, rfl, rfl, Stir.grownBy ((Stir.refl _ w).alloc _), (Below.refl _ w).alloc (Nat.le_refl _) _, fun k s hs => ?_, _, heap_alloc_new w _⟩
  have hadd : ∀ m, (⟨w.heap.size, 0, none⟩ : Addr).add m = ⟨w.heap.size, m, none⟩ := fun m => by unfold Addr.add; split <;> simp_all
  have hc : ∀ j, j < 7 → (w.alloc (.cells specCells 26)).cell? ⟨w.heap.size, k * 7 + j, none⟩ = (encS s)[j]? := fun j hj => by
    unfold World.cell?
    rw [heap_alloc_new]
    show specCells[k * 7 + j]? = _
    rw [specCells_list, List.getElem?_toArray]
    exact flat7 _ _ _ _ hs hj
  rw [hadd]
  exact ⟨hc 0 (by omega), hc 1 (by omega), hc 2 (by omega), hc 3 (by omega), hc 4 (by omega), hc 5 (by omega), hc 6 (by omega)⟩

set_option maxRecDepth 100000 in
set_option maxHeartbeats 4000000 in
theorem all1_inT (n : Nat) (hn : 1 ≤ n) (l B : Nat) (T : Nat → Prop) (J Jx : List SpecV → World → Prop) (W : World) (hTn : ∀ k, W.heap.size ≤ k → ¬ T k) (hA : AbidesFrom W.heap.size J)
    (hY : ∀ pre x W, J pre W → pre.length < specL.length → YieldAt Fence.wide (n - 1) Try.prog l #[.agg (encS x).toArray] W fun e W' =>
      (e = .returned (.bool true) ∧ J (pre ++ [x]) W' ∧ StirT B 9 T W W') ∨ (e = .returned (.bool false) ∧ Jx (pre ++ [x]) W')) (h0 : J [] W) :
    CallsIn Fence.wide n Try.prog 29 #[.func (.yield l) #[] #[]] W fun e W' => (∃ v, e = .returned v) ∧
      ((∃ ys, ys = specL ∧ J ys W') ∨ (∃ pre, pre <+: specL ∧ Jx pre W')) := by
  refine callsIn_of_wp Try.func29 rfl trivial ?_ rfl
  simp only [Try.ntmps29, List.size_toArray, List.length_cons, List.length_nil, Nat.reduceAdd, Nat.reduceSub, Array.replicate_succ, Array.replicate_zero, List.push_toArray, List.append_toArray, List.nil_append, List.cons_append]
  gi_wp2_with fail
  refine ⟨trivial, (callsIn_wide.2 (specs_at2 W)).mono ?_⟩
  rintro e W1 ⟨ad, rfl, hadb, hgr, hbl, hcs, sc, hblk⟩
  have hJ1 := hA _ _ _ none h0 hgr (fun r e => by cases e)
  have hb : ¬ T ad.block := by rw [hadb]; exact hTn _ (Nat.le_refl _)
  have hs1 : W.heap.size ≤ W1.heap.size := hbl.size
  clear hadb hgr hbl
  gi_wp2_with fail
  gi_loopw [6] (fun i wr => ∃ k : Nat, k ≤ 54 ∧ i = .int .i64 k ∧ J (specL.take k) wr ∧ StirT B 9 T W1 wr)
    (fun i _ => 54 - (intOf i).toNat)
  case atStart => exact ⟨0, Nat.zero_le _, rfl, by simpa using hJ1, StirT.refl _ _ _ _⟩
  case round =>
    obtain ⟨k, hk, rfl, hJs, hnx⟩ := hrel
    by_cases hlt : k < 54
    · obtain ⟨x, hx⟩ : ∃ x, specL[k]? = some x := ⟨_, List.getElem?_eq_getElem (by rw [specL_length]; omega)⟩
      obtain ⟨c0, c1, c2, c3, c4, c5, c6⟩ := hcs k x hx
      have d0 := hnx.cell c0 (by rw [add_block]; exact hblk) (by decide) (by rw [add_block]; exact hb)
      have d1 := hnx.cell c1 (by show W1.heap[_]? = _; rw [add_block]; exact hblk) (by decide) (by show ¬ T _; rw [add_block]; exact hb)
      have d2 := hnx.cell c2 (by show W1.heap[_]? = _; rw [add_block]; exact hblk) (by decide) (by show ¬ T _; rw [add_block]; exact hb)
      have d3 := hnx.cell c3 (by show W1.heap[_]? = _; rw [add_block]; exact hblk) (by decide) (by show ¬ T _; rw [add_block]; exact hb)
      have d4 := hnx.cell c4 (by show W1.heap[_]? = _; rw [add_block]; exact hblk) (by decide) (by show ¬ T _; rw [add_block]; exact hb)
      have d5 := hnx.cell c5 (by show W1.heap[_]? = _; rw [add_block]; exact hblk) (by decide) (by show ¬ T _; rw [add_block]; exact hb)
      have d6 := hnx.cell c6 (by show W1.heap[_]? = _; rw [add_block]; exact hblk) (by decide) (by show ¬ T _; rw [add_block]; exact hb)
      clear c0 c1 c2 c3 c4 c5 c6
      have hJ1 := hA _ _ (wr.alloc (.cells (encS x).toArray 26)) none hJs (Stir.grownBy ((Stir.refl _ wr).alloc _)) (fun r e => by cases e)
      obtain ⟨fn, tmps, assign, body, hy, hR⟩ := hY _ x _ hJ1 (by rw [List.length_take, specL_length]; omega)
      have htk : specL.take (k + 1) = specL.take k ++ [x] := by rw [List.take_add_one, hx]; rfl
      have HT := Lib.hid htk
      clear htk hx hcs
      obtain ⟨s0, s1, s2, s3, s4, s5, s6⟩ := x
      simp only [encS] at hy hR
      dsimp only at d0 d1 d2 d3 d4 d5 d6
      gi_wp2_with fail
      refine hR.mono ?_
      rintro e W3 (⟨rfl, hJ3, hk3⟩ | ⟨rfl, hJx3⟩)
      · gi_wp2
        go_roundw
        case rel => exact ⟨k + 1, by omega, by simp, by rw [HT.out]; exact hJ3, (hnx.alloc _).trans hk3⟩
        case measure => simp [intOf]; omega
      · gi_wp2
        refine bodyPost_ret (results_none rfl _ _ _) rfl ?_
        exact ⟨⟨_, rfl⟩, .inr ⟨_, by rw [← HT.out]; exact List.take_prefix _ _, hJx3⟩⟩
    · obtain rfl : k = 54 := by omega
      gi_wp2
      go_end0
      exact ⟨⟨_, rfl⟩, .inl ⟨_, rfl, by rw [List.take_of_length_le (by rw [specL_length]; omega)] at hJs; exact hJs⟩⟩


theorem all_stopsT (n : Nat) (hn : 1 ≤ n) (B : Nat) (T : Nat → Prop) (w : World) (hT : ∀ k, w.heap.size ≤ k → ¬ T k) :
    SeqStopsK Fence.wide n Try.prog 29 #[] (fun x : SpecV => #[.agg (encS x).toArray]) (StirT B 9 T) (fun ys => ys = specL) (fun pre => pre <+: specL) specL.length w := fun l J Jx W hW hA _ hY h0 =>
  all1_inT n hn l B T J Jx W (fun k h => hT k (Nat.le_trans hW.size h)) hA hY h0
end Go.Proofs.Ytjdpmjpfhcdcfaa
