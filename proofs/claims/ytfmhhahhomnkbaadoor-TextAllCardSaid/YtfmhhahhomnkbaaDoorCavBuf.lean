/- A buffer of bytes that []byte(s) made, or append after it: what it holds, and what one byte more leaves. Conditions: that each law names. -/
import Derived.Test.YtfmhhahhomnkbaaDoorCavA
import Derived.Laws.IdiomStrings
import Derived.Laws.IdiomCopy
import Derived.Lib.FrozenHead
namespace Go.Cav
open Go.RowKit
variable {P : Program}

/-- The slice value of a block of the call's own: its bytes; nothing of its row is frozen. -/
def Buf (w : World) (base : Nat) (e : TypeId) (g cap : Nat) (l : List UInt8) : Prop :=
  base ≤ g ∧ l.length ≤ cap ∧ cap ≤ maxLen ∧ ∃ cur fz, w.heap[g]? = some (.cells cur e fz) ∧ (∀ k, k < cur.size → ¬ (fz.1 ≤ k ∧ k < fz.2)) ∧ cur.size = cap ∧ cur.toList.take l.length = l.map B8

theorem Buf.lt {w : World} {base g cap : Nat} {e : TypeId} {l : List UInt8} (h : Buf w base e g cap l) : g < w.heap.size := by
  obtain ⟨_, _, _, cur, fz, hg, _⟩ := h
  exact (Array.getElem?_eq_some_iff.1 hg).1
theorem Buf.cell {w : World} {base g cap : Nat} {e : TypeId} {l : List UInt8} (h : Buf w base e g cap l) (j : Nat) (hj : j < l.length) : w.cell? ⟨g, j, none⟩ = some (B8 l[j]) := by
  obtain ⟨_, hc, _, cur, fz, hg, _, hs, ht⟩ := h
  rw [cell_of_row w g j cur e fz hg]
  have : (cur.toList.take l.length)[j]? = some (B8 l[j]) := by rw [ht]; simp [hj]
  rw [List.getElem?_take, if_pos hj] at this
  simpa using this
theorem Buf.free {w : World} {base g cap : Nat} {e : TypeId} {l : List UInt8} (h : Buf w base e g cap l) (j : Nat) (hj : j < cap) : w.frozen? ⟨g, j, none⟩ = false := by
  obtain ⟨_, _, _, cur, fz, hg, hf, hs, _⟩ := h
  have := hf j (by omega)
  obtain ⟨lo, hi⟩ := fz
  simp only [World.frozen?, hg, Bool.and_eq_false_iff, decide_eq_false_iff_not]
  simp only at this
  omega
theorem Buf.of_string (w : World) (base : Nat) (e : TypeId) (s : ByteArray) (cp : Nat) (hb : base ≤ w.heap.size) (h1 : s.size ≤ cp) (h2 : cp ≤ maxLen) :
    Buf (w.drew.alloc (.cells (bytesRow s cp) e ((bytesRow s cp).size, (bytesRow s cp).size + 1))) base e w.heap.size cp s.data.toList := by
  have hl : s.data.toList.length = s.size := by rw [Array.length_toList]; rfl
  have hz : (bytesRow s cp).size = cp := by
    unfold bytesRow
    rw [Array.size_append, Array.size_map, Array.size_replicate]
    have : s.data.size = s.size := rfl
    omega
  refine ⟨hb, by omega, h2, _, _, heap_alloc_new w.drew _, fun k hk h => by simp only at h; omega, hz, ?_⟩
  unfold bytesRow
  rw [Array.toList_append, Array.toList_map, hl]
  refine Eq.trans (List.take_append_of_le_length (by rw [List.length_map, hl]; exact Nat.le_refl _)) ?_
  exact List.take_of_length_le (by rw [List.length_map, hl]; exact Nat.le_refl _)
theorem Buf.alloc {w : World} {base g cap : Nat} {e : TypeId} {l : List UInt8} (h : Buf w base e g cap l) (o : Obj) : Buf (w.alloc o) base e g cap l := by
  have hlt := h.lt
  obtain ⟨a, b, c, cur, fz, hg, d⟩ := h
  exact ⟨a, b, c, cur, fz, (heap_alloc_old w o hlt).trans hg, d⟩
theorem run_storeCells_free (P : Program) (g o : Nat) (t : TypeId) (fz : Nat × Nat) : ∀ (vs : List Value) (i : Nat) (cur : Array Value) (w : World), w.heap[g]? = some (.cells cur t fz) → (∀ k, k < cur.size → ¬ (fz.1 ≤ k ∧ k < fz.2)) → o + i + vs.length ≤ cur.size → (∀ v ∈ vs, v.oneCell' = true) →
    (storeCells ⟨g, o, none⟩ vs i).run P w = .ok () (w.setRow g (cur.toList.take (o + i) ++ vs ++ cur.toList.drop (o + i + vs.length)).toArray)
  | [], i, cur, w, hg, _, _, _ => by
    simp only [storeCells, List.append_nil, List.length_nil, Nat.add_zero, List.take_append_drop, Array.toArray_toList]
    rw [setRow_self w g cur t fz hg]
    rfl
  | v :: rest, i, cur, w, hg, hfz, hl, h1 => by
    have hi : o + i < cur.size := by simp at hl; omega
    have hadd : (⟨g, o, none⟩ : Addr).add i = ⟨g, o + i, none⟩ := by unfold Addr.add; split <;> simp_all
    have hcell : w.cell? ⟨g, o + i, none⟩ = some cur[o + i] := by simp [World.cell?, hg, hi]
    have hfro : w.frozen? ⟨g, o + i, none⟩ = false := by
      have := hfz (o + i) hi
      obtain ⟨lo, hi'⟩ := fz
      simp only [World.frozen?, hg, Bool.and_eq_false_iff, decide_eq_false_iff_not]
      simp only at this
      omega
    have hst : (store ((⟨g, o, none⟩ : Addr).add i) v).run P w = .ok () (w.setRow g (cur.setIfInBounds (o + i) v)) := by
      rw [hadd, run_store P w _ v _ (h1 v (by simp)), hcell]
      simp [hfro, setCell_eq_setRow w g (o + i) cur t fz v hg]
    have ih := run_storeCells_free P g o t fz rest (i + 1) (cur.setIfInBounds (o + i) v) (w.setRow g (cur.setIfInBounds (o + i) v)) (setRow_heap w g cur _ t _ hg) (by rw [Array.size_setIfInBounds]; exact hfz) (by simp at hl ⊢; omega) (fun x hx => h1 x (by simp [hx]))
    simp only [storeCells, Sem.run_bind, hst, Result.andThen_ok, ih, setRow_setRow]
    congr 3
    have e := list_seg_step cur.toList (o + i) v rest (by simp at hl ⊢; omega)
    simpa [Array.toList_setIfInBounds, Nat.add_assoc] using e

/-- one byte more -/
theorem run_append_byte (w : World) (base : Nat) (t ty e : TypeId) (i : TypeInfo) (z : Value) (ht : P.underlying t = some (.slice e)) (hi : P.info? e = some i) (hz : i.zero = some z)
    (hsize : i.size = 1) (hby : i.bytes = 1) (hzs : z.cells.size = 1) (g cap : Nat) (l : List UInt8) (hown : Buf w base e g cap l)
    (a : Addr) (c : Nat) (b : UInt8) (hb : w.cell? a = some (B8 b)) (hl : l.length + 1 ≤ 140737488355328) (hbase : base ≤ w.heap.size) :
    ∃ g' cap' w', (Builtin.append_ #[t, t] ty #[.slice (some ⟨g, 0, none⟩) l.length cap, .slice (some a) 1 c]).run P w = .ok (.slice (some ⟨g', 0, none⟩) (l.length + 1) cap') w' ∧ Buf w' base e g' cap' (l ++ [b]) ∧ w.grownBy w' (some g) := by
  have hown' := hown
  obtain ⟨h0, hlc, hcm, cur, fz, hg, hfz, hcs, htake⟩ := hown
  have hnews : ∀ j u, [B8 b][j]? = some u → w.cell? (a.add j) = some u := by
    intro j u hj
    match j, hj with
    | 0, hj => cases hj; simpa [Addr.add] using hb
    | j + 1, hj => simp at hj
  have h1 : ∀ u ∈ [B8 b], u.oneCell' = true := fun u hu => by rw [List.mem_singleton.1 hu]; rfl
  by_cases hroom : l.length + 1 ≤ cap
  · have hf := run_firstCells_some (P := P) w 1 1 a 1 c [B8 b] rfl hnews
    have hst := run_storeCells_free P g l.length e fz [B8 b] 0 cur w hg hfz (by simp; omega) h1
    simp only [Nat.add_zero] at hst
    refine ⟨g, cap, w.setRow g (cur.toList.take l.length ++ [B8 b] ++ cur.toList.drop (l.length + 1)).toArray, ?_, ⟨h0, by simp; omega, hcm, _, fz, setRow_heap w g cur _ e _ hg, ?_, ?_, ?_⟩, ⟨rfl, rfl, rfl, by simp, fun k _ hk => setRow_other w g k _ (fun e => hk (by rw [e]))⟩⟩
    · simp [Builtin.append_, run_underlying ht, sizeOf, typeInfo, hi, hsize, Builtin.lenOf, hroom, hf, Addr.add_lit, hst]
    · intro k hk
      refine hfz k ?_
      simp only [List.size_toArray, List.length_append, List.length_take, List.length_drop, Array.length_toList, List.length_singleton] at hk
      omega
    · simp only [List.size_toArray, List.length_append, List.length_take, List.length_drop, Array.length_toList, List.length_singleton]
      omega
    · rw [htake, List.map_append]
      exact List.take_left' (by simp)
  · have holds : ∀ j u, (l.map B8)[j]? = some u → w.cell? ((⟨g, 0, none⟩ : Addr).add j) = some u := by
      intro j u hj
      obtain ⟨hj1, hj2⟩ := List.getElem?_eq_some_iff.1 hj
      rw [List.length_map] at hj1
      have hadd : (⟨g, 0, none⟩ : Addr).add j = ⟨g, j, none⟩ := by unfold Addr.add; split <;> simp_all
      rw [hadd, hown'.cell j hj1, ← hj2, List.getElem_map]
    have hml : l.length + 1 ≤ maxLen := by simp only [maxLen]; omega
    have hr := run_append_grow (P := P) w t ty e i z ht hi hz ⟨g, 0, none⟩ l.length cap (l.map B8) (by simp [hsize]) holds a 1 c [B8 b] (by simp [hsize]) hnews (by omega) (by omega) (by rw [hby]; exact growslice_fits (by omega) (by omega))
    have hge := grownCap_ge w (l.length + 1) cap e
    refine ⟨w.heap.size, grownCap w (l.length + 1) cap e, _, hr, ⟨hbase, by simp; omega, grownCap_le_maxLen w (l.length + 1) cap e hml, _, (0, 0), heap_alloc_new w.drew _, fun k _ h => by simp only at h; omega, ?_, ?_⟩, ⟨rfl, rfl, rfl, by simp, fun k hk _ => heap_alloc_old w.drew _ hk⟩⟩
    · simp only [Array.size_append, List.size_toArray, size_zeroCells, hzs, List.length_map, List.length_singleton]
      omega
    · simp only [Array.toList_append, List.append_assoc]
      rw [← List.append_assoc, List.map_append]
      exact List.take_left' (by simp)

theorem wpList_append_byte {w : World} {ops : Array Oper} {rest : List Oper} {o : Oper} {a : Act} {Q : Exit → Act → World → Prop} (hgd : o.guard = none) (s x : Operand) (t : TypeId)
    (ho : o.op = .call { callee := .builtin .append, args := #[s, x], argTypes := #[t, t] })
    (base : Nat) (e : TypeId) (i : TypeInfo) (z : Value) (ht : P.underlying t = some (.slice e)) (hi : P.info? e = some i) (hz : i.zero = some z)
    (hsize : i.size = 1) (hby : i.bytes = 1) (hzs : z.cells.size = 1) (g cap n : Nat) (l : List UInt8) (hn : n = l.length) (hs : a.eval s = .slice (some ⟨g, 0, none⟩) n cap) (hown : Buf w base e g cap l)
    (ad : Addr) (c : Nat) (b : UInt8) (hxv : a.eval x = .slice (some ad) 1 c) (hb : w.cell? ad = some (B8 b)) (hl : l.length + 1 ≤ 140737488355328) (hbase : base ≤ w.heap.size)
    (h : ∀ g' cap' w', Buf w' base e g' cap' (l ++ [b]) → w.grownBy w' (some g) → wpList P ops Q rest (a.put o.dst (.slice (some ⟨g', 0, none⟩) (n + 1) cap')) w') : wpList P ops Q (o :: rest) a w := by
  subst hn
  refine wpList_plain hgd fun K hK => ?_
  obtain ⟨g', cap', w', hrun, r1, r2⟩ := run_append_byte (P := P) w base t o.type e i z ht hi hz hsize hby hzs g cap l hown ad c b hb hl hbase
  unfold Oper.wp
  simp [execOp, ho, resolve, invoke, builtin, hs, hxv, hrun, Result.andThen]
  exact hK _ _ (h g' cap' w' r1 r2)
/-- a text laid into a buffer -/
theorem Buf.copied {w : World} {base g cap : Nat} {e : TypeId} {l : List UInt8} (h : Buf w base e g cap l) (o : Nat) (v : List UInt8) (hv : o + v.length ≤ l.length) (j : Nat) (hj : j < l.length) :
    (w.setCells g o (v.map B8)).cell? ⟨g, j, none⟩ = some (B8 ((l.take o ++ v ++ l.drop (o + v.length))[j]'(by simp; omega))) := by
  by_cases h1 : j < o
  · rw [World.cell?_setCells_out g (v.map B8) o w ⟨g, j, none⟩ (fun _ _ => .inl h1), h.cell j hj]
    congr 2
    have hk : (l.take o).length = o := by rw [List.length_take]; omega
    rw [List.getElem_append_left (by rw [List.length_append, hk]; omega), List.getElem_append_left (by rw [hk]; omega), List.getElem_take]
  · by_cases h2 : j < o + v.length
    · obtain ⟨k, rfl⟩ : ∃ k, j = o + k := ⟨j - o, by omega⟩
      rw [World.cell?_setCells_in g (v.map B8) o w (fun m hm => by rw [List.length_map] at hm; rw [h.cell (o + m) (by omega)]; rfl) k (by rw [List.length_map]; omega)]
      rw [List.getElem_map]
      congr 2
      have hk : (l.take o).length = o := by rw [List.length_take]; omega
      rw [List.getElem_append_left (by rw [List.length_append, hk]; omega), List.getElem_append_right (by rw [hk]; omega)]
      congr 1
      omega
    · rw [World.cell?_setCells_out g (v.map B8) o w ⟨g, j, none⟩ (fun _ _ => .inr (by rw [List.length_map]; show o + v.length ≤ j; omega)), h.cell j hj]
      congr 2
      have hk : (l.take o ++ v).length = o + v.length := by rw [List.length_append, List.length_take]; omega
      rw [List.getElem_append_right (by rw [hk]; omega), List.getElem_drop]
      congr 1
      omega
end Go.Cav
