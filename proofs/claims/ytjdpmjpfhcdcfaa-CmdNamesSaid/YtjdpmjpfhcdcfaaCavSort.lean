/- Words and laws of no program: what the library's sort of texts does to memory, in the words of what is owned. No conditions. -/
import Derived.Test.YtjdpmjpfhcdcfaaCavA
import Derived.Test.YtjdpmjpfhcdcfaaPK
import Derived.Shelf.Sort.Plain
import Derived.Shelf.Slices.CompactS
namespace Go.Cav
open Go Go.RowKit Go.Sort Go.Proofs

theorem enc_toList (x : ByteArray) : encStr x.toList = .string x := by
  show Value.string ⟨x.toList.toArray⟩ = _
  rw [Go.Pk.toList_data]
def ofL (l : List UInt8) : ByteArray := ⟨l.toArray⟩
theorem ofL_toList (x : ByteArray) : ofL x.toList = x := by unfold ofL; rw [Go.Pk.toList_data]
theorem toList_ofL (l : List UInt8) : (ofL l).toList = l := by rw [Go.Pk.toList_data]; rfl

theorem stir_putRow {α : Type} [Inhabited α] (enc : α → Value) (w : World) (n blk off : Nat) (d : Array α) : Stir (fun k => k = blk) w (putRow enc (Sort.ahead w n) blk off d) :=
  ⟨rfl, rfl, rfl, by simp, fun k _ hn => by
    have hn' : ¬ blk = k := fun e => hn e.symm
    simp [putRow, mapBlock, Array.getElem?_modify, hn', Sort.ahead]⟩
theorem stir_grow {S : Nat → Prop} {w w1 : World} (h : Stir S w w1) (os : Array Obj) : Stir S w (grow w1 os) :=
  ⟨h.os, h.tape, h.output, by have := h.size; simp; omega, fun k hk hn => (heap_grow_old w1 os (Nat.lt_of_lt_of_le hk h.size)).trans (h.block k hk hn)⟩
theorem holds_owns {w : World} {base n g cap : Nat} {e : TypeId} {l : List ByteArray} (h : w.ownsRow base e 1 (.slice (some ⟨g, 0, none⟩) n cap) n (l.map .string)) : Holds encStr w g 0 (l.map ByteArray.toList).toArray := by
  intro j hj
  have hj' : j < l.length := by simpa using hj
  rcases h.2 with ⟨e1, _⟩ | ⟨g', cap', cur, e1, hb, hg, rest⟩
  · cases e1
  · cases e1
    have hc := h.cells (g := g) rfl j (.string l[j]) (by rw [List.getElem?_map, List.getElem?_eq_getElem hj']; rfl)
    have ha : (⟨g, 0, none⟩ : Addr).add j = ⟨g, 0 + j, none⟩ := by unfold Addr.add; split <;> simp_all
    rw [ha] at hc
    refine ⟨?_, by unfold World.frozen?; rw [show w.heap[(⟨g, 0 + j, none⟩ : Addr).block]? = _ from hg]; simp⟩
    rw [hc, getElem!_pos _ j hj]
    simp only [List.getElem_toArray, List.getElem_map, enc_toList]
theorem holds_cells {w : World} {g : Nat} {L : List (List UInt8)} (h : Holds encStr w g 0 L.toArray) (j : Nat) (hj : j < L.length) : w.cell? ⟨g, j, none⟩ = some (.string (ofL L[j])) := by
  have := (h j (by simpa using hj)).1
  rw [Nat.zero_add, getElem!_pos _ j (by simpa using hj)] at this
  rw [this]; simp only [List.getElem_toArray]; rfl
theorem holds_take {w : World} {g : Nat} {L M : List (List UInt8)} (h : Holds encStr w g 0 (L ++ M).toArray) : Holds encStr w g 0 L.toArray := by
  intro j hj
  have hj' : j < L.length := by simpa using hj
  have := h j (by simp; omega)
  rw [getElem!_pos _ j (by simp; omega)] at this
  rw [getElem!_pos _ j hj]
  simpa [List.getElem_append_left hj'] using this

/-! ### The order: rising behind the sort, once each behind Compact -/
theorem less_lt (x y : List UInt8) : Op.bytesLess x y = decide (x < y) := bytesLess_eq x y
theorem le_less (x y : List UInt8) : decide (x ≤ y) = !Op.bytesLess y x := by
  rw [less_lt]
  by_cases h : y < x
  · rw [decide_eq_true h, decide_eq_false (List.not_le.2 h)]; rfl
  · rw [decide_eq_false h, decide_eq_true (List.not_lt.1 h)]; rfl
def sortL (l : List ByteArray) : List (List UInt8) := (l.map ByteArray.toList).mergeSort fun x y => decide (x ≤ y)
theorem sortL_perm (l : List ByteArray) : List.Perm (sortL l) (l.map ByteArray.toList) := List.mergeSort_perm _ _
theorem sortL_up (l : List ByteArray) : (sortL l).Pairwise (fun x y => Op.bytesLess y x = false) := by
  have h := List.pairwise_mergeSort (le := fun x y : List UInt8 => decide (x ≤ y)) (by
      intro a b c h1 h2
      simp only [decide_eq_true_eq] at h1 h2 ⊢
      exact List.le_trans h1 h2) (by
      intro a b
      simp only [Bool.or_eq_true, decide_eq_true_eq]
      exact List.le_total a b) (l.map ByteArray.toList)
  refine h.imp ?_
  intro a b hab
  rw [le_less] at hab
  simpa using hab
theorem compactUpTo_up (d : Array (List UInt8)) (hd : ∀ i j, i < j → j < d.size → Op.bytesLess d[j]! d[i]! = false) : ∀ m, m ≤ d.size →
    (Lib.compactUpTo d m).Pairwise (fun x y => Op.bytesLess x y = true) ∧ ∀ x, x ∈ Lib.compactUpTo d m ↔ ∃ j, j < m ∧ d[j]! = x
  | 0, _ => by simp [Lib.compactUpTo]
  | m + 1, hm => by
    obtain ⟨ih1, ih2⟩ := compactUpTo_up d hd m (by omega)
    rw [Lib.compactUpTo_succ]
    cases hk : Lib.keeps d m with
    | true =>
      simp only [if_true]
      have hall : ∀ x, x ∈ Lib.compactUpTo d m → Op.bytesLess x d[m]! = true := by
        intro x hx
        obtain ⟨j, hj, rfl⟩ := (ih2 x).1 hx
        have hne : d[m]! ≠ d[m - 1]! := by
          simp only [Lib.keeps, decide_eq_true_eq] at hk
          rcases hk with h | h
          · omega
          · exact h
        have h1 : Op.bytesLess d[m - 1]! d[m]! = true := by
          rcases Go.Pk.less_total d[m - 1]! d[m]! with h | h | h
          · exact h
          · exact absurd h.symm hne
          · rw [hd (m - 1) m (by omega) (by omega)] at h; cases h
        by_cases e : j = m - 1
        · subst e; exact h1
        · rcases Go.Pk.less_total d[j]! d[m - 1]! with h | h | h
          · exact Go.Pk.less_trans _ _ _ h h1
          · rw [h]; exact h1
          · rw [hd j (m - 1) (by omega) (by omega)] at h; cases h
      refine ⟨List.pairwise_append.2 ⟨ih1, by simp, fun x hx y hy => ?_⟩, fun x => ?_⟩
      · rw [List.mem_singleton.1 hy]; exact hall x hx
      · rw [List.mem_append, List.mem_singleton, ih2]
        constructor
        · rintro (⟨j, h, e⟩ | rfl)
          · exact ⟨j, by omega, e⟩
          · exact ⟨m, by omega, rfl⟩
        · rintro ⟨j, h, e⟩
          by_cases hj : j = m
          · subst hj; exact .inr e.symm
          · exact .inl ⟨j, by omega, e⟩
    | false =>
      simp only [Bool.false_eq_true, if_false, List.append_nil]
      refine ⟨ih1, fun x => ?_⟩
      have he : 0 < m ∧ d[m]! = d[m - 1]! := by
        simp only [Lib.keeps, decide_eq_false_iff_not, not_or, Decidable.not_not] at hk
        exact ⟨by omega, hk.2⟩
      rw [ih2]
      constructor
      · rintro ⟨j, h, e⟩; exact ⟨j, by omega, e⟩
      · rintro ⟨j, h, e⟩
        by_cases hj : j = m
        · subst hj; exact ⟨j - 1, by omega, by rw [← he.2]; exact e⟩
        · exact ⟨j, by omega, e⟩
/-- the texts of a list, rising, once each -/
def ofP (l : List ByteArray) : List ByteArray := (Lib.compact (sortL l)).map ofL
theorem sortL_length (l : List ByteArray) : (sortL l).length = l.length := by rw [(sortL_perm l).length_eq, List.length_map]
theorem compact_sortL (l : List ByteArray) : (Lib.compact (sortL l)).Pairwise (fun x y => Op.bytesLess x y = true) ∧ ∀ x, x ∈ Lib.compact (sortL l) ↔ x ∈ l.map ByteArray.toList := by
  have hu := sortL_up l
  have h := compactUpTo_up (sortL l).toArray (by
    intro i j hij hj
    rw [getElem!_pos _ j hj, getElem!_pos _ i (by omega)]
    simp only [List.getElem_toArray]
    exact List.pairwise_iff_getElem.1 hu i j (by simp at hj; omega) (by simpa using hj) hij) (sortL l).length (by simp)
  refine ⟨h.1, fun x => ?_⟩
  rw [show Lib.compact (sortL l) = Lib.compactUpTo (sortL l).toArray (sortL l).length from rfl, h.2, ← (sortL_perm l).mem_iff, List.mem_iff_getElem]
  constructor
  · rintro ⟨j, hj, e⟩
    rw [getElem!_pos _ j (by simpa using hj)] at e
    exact ⟨j, hj, by simpa using e⟩
  · rintro ⟨j, hj, e⟩
    refine ⟨j, hj, ?_⟩
    rw [getElem!_pos _ j (by simpa using hj)]
    simpa using e
theorem mem_ofP (l : List ByteArray) (x : ByteArray) : x ∈ ofP l ↔ x ∈ l := by
  unfold ofP
  rw [List.mem_map]
  constructor
  · rintro ⟨a, ha, rfl⟩
    rw [(compact_sortL l).2, List.mem_map] at ha
    obtain ⟨y, hy, rfl⟩ := ha
    rw [ofL_toList]; exact hy
  · intro hx
    exact ⟨x.toList, (compact_sortL l).2 _ |>.2 (List.mem_map.2 ⟨x, hx, rfl⟩), ofL_toList x⟩
theorem ofP_up (l : List ByteArray) : (ofP l).Pairwise (fun x y => Op.bytesLess x.toList y.toList = true) := by
  unfold ofP
  rw [List.pairwise_map]
  exact (compact_sortL l).1.imp (fun h => by rw [toList_ofL, toList_ofL]; exact h)
theorem compact_len {α : Type} [Inhabited α] [DecidableEq α] (zs : List α) : (Lib.compact zs).length ≤ zs.length := by
  unfold Lib.compact Lib.compactUpTo
  rw [List.length_map]
  exact Nat.le_trans (List.length_filter_le _ _) (by simp)
theorem ofP_len (l : List ByteArray) : (ofP l).length ≤ l.length := by
  unfold ofP
  rw [List.length_map, ← sortL_length l]
  exact compact_len _
end Go.Cav
