/- The plain law of SetsOrder: the set of a list is the set of the list turned. No conditions. -/
import Derived.Test.YtelgfangaigncaaG4
import Derived.Test.YtelgfangaigncaaPT
namespace Go.Proofs.Ytelgfangaigncaa.Pure
open Go.RowKit Go.Pk Go.Cav Go.Proofs.Ytelgfangaigncaa Go.Proofs.Ytelgfangaigncaa.G Go.Proofs.YtelgfangaigncaaW.PrintWords Go.Proofs.YtelgfangaigncaaW.PrintLast

theorem great_l0 (ws : List ByteArray) : ∀ (d i k : Nat), i + d = min ws.length 100 → 2 * d + 2 ≤ k → ∃ g, caravanlaw9_great.l0 k ws (i : Int) = some g ∧ (g = false → ws.length ≤ 60)
  | 0, i, k, hi, hk => by
    obtain ⟨k, rfl⟩ : ∃ k', k = k' + 2 := ⟨k - 2, by omega⟩
    refine ⟨decide ((ws.length : Int) > 60), ?_, fun h => ?_⟩
    · unfold caravanlaw9_great.l0
      have hj1 : caravanlaw9_great.j1 (k + 1) ws (i : Int) false = some (decide ((ws.length : Int) > 60)) := by
        rw [caravanlaw9_great.j1, if_neg (by decide)]
      split
      · rw [show decide ((i : Int) < 100) = false from decide_eq_false (by omega)]; exact hj1
      · exact hj1
    · rw [decide_eq_false_iff_not] at h; omega
  | d + 1, i, k, hi, hk => by
    obtain ⟨k, rfl⟩ : ∃ k', k = k' + 2 := ⟨k - 2, by omega⟩
    have hlt : i < ws.length := by omega
    rw [caravanlaw9_great.l0]
    rw [if_pos (by omega), show decide ((i : Int) < 100) = true from decide_eq_true (by omega)]
    rw [caravanlaw9_great.j1]
    rw [if_pos rfl, if_pos (by omega), if_pos (by omega), rdOf_at _ _ _ hlt]
    by_cases hq : (ws[i]).size ≤ 200
    · rw [if_neg (by omega), w64 (by omega) (by omega)]
      exact great_l0 ws d (i + 1) k (by omega) (by omega)
    · rw [if_pos (by omega)]
      exact ⟨true, rfl, fun h => by cases h⟩
theorem great_f (ws : List ByteArray) (k : Nat) (hk : 300 ≤ k) : ∃ g, caravanlaw9_great.f k ws = some g ∧ (g = false → ws.length ≤ 60) :=
  great_l0 ws (min ws.length 100) 0 k (by omega) (by omega)

theorem order_l1 (l0 : List ByteArray) (s : ByteArray) (a b : List ByteArray) (x : Bool) (ha : Asc a) (hab : a = b) (hl : a.length ≤ l0.length) (hl2 : l0.length ≤ 60) (hx : x = true ↔ s ∈ a) :
    ∀ (d i k : Nat), 1 ≤ i → a.length ≤ i + d → 10100 + d ≤ k → caravanlaw9_SetsOrder.l1 k l0 s a b x (i : Int) = some true
  | d, i, k, h1, hi, hk => by
    obtain ⟨k, rfl⟩ : ∃ k', k = k' + 1 := ⟨k - 1, by omega⟩
    rw [caravanlaw9_SetsOrder.l1]
    by_cases hlt : i < a.length
    · obtain ⟨d, rfl⟩ : ∃ d', d = d' + 1 := ⟨d - 1, by omega⟩
      obtain ⟨j, rfl⟩ : ∃ j, i = j + 1 := ⟨i - 1, by omega⟩
      rw [if_pos (by omega), show wrap64 (((j + 1 : Nat) : Int) - 1) = (j : Int) from by rw [w64 (by omega) (by omega)]; omega]
      rw [if_pos (by omega), if_pos (by omega), if_pos (by omega), rdOf_at _ _ _ (show j < a.length by omega), rdOf_at _ _ _ hlt]
      have := List.pairwise_iff_getElem.1 ha j (j + 1) (by omega) hlt (by omega)
      rw [if_pos (show Op.bytesLess a[j].toList a[j + 1].toList = true from this), w64 (by omega) (by omega)]
      exact order_l1 l0 s a b x ha hab hl hl2 hx d (j + 2) k (by omega) (by omega) (by omega)
    · rw [if_neg (by omega), texts_f a b hab (by omega) k (by omega), Option.bind_some, if_pos rfl]
      obtain ⟨t, e1, e2⟩ := has_f a s ha (by omega) k (by omega)
      have e : t = x := by cases t <;> cases x <;> simp_all
      rw [e1, Option.bind_some, e, if_pos (by simp), if_pos (by omega), awake_f]; rfl
theorem order_l0 (l0 : List ByteArray) (s : ByteArray) (b : List ByteArray) (hab : ofP l0 = b) (hl2 : l0.length ≤ 60) :
    ∀ (d i k : Nat) (x : Bool), i + d = l0.length → 10200 + d ≤ k → (x = true ↔ s ∈ l0.take i) → caravanlaw9_SetsOrder.l0 k l0 s (ofP l0) b x (i : Int) = some true
  | 0, i, k, x, hi, hk, hx => by
    obtain ⟨k, rfl⟩ : ∃ k', k = k' + 1 := ⟨k - 1, by omega⟩
    rw [caravanlaw9_SetsOrder.l0]
    rw [if_neg (by omega)]
    have hlen := ofP_len l0
    rw [List.take_of_length_le (by omega)] at hx
    exact order_l1 l0 s (ofP l0) b x (asc_ofP l0) hab hlen hl2 (by rw [hx, mem_ofP]) (ofP l0).length 1 k (by omega) (by omega) (by omega)
  | d + 1, i, k, x, hi, hk, hx => by
    obtain ⟨k, rfl⟩ : ∃ k', k = k' + 1 := ⟨k - 1, by omega⟩
    have hlt : i < l0.length := by omega
    have hlen := ofP_len l0
    obtain ⟨t, e1, e2⟩ := has_f (ofP l0) l0[i] (asc_ofP l0) (by omega) k (by omega)
    have et : t = true := e2.2 ((mem_ofP _ _).2 (List.getElem_mem hlt))
    subst et
    have htk : l0.take (i + 1) = l0.take i ++ [l0[i]] := by rw [List.take_add_one, List.getElem?_eq_getElem hlt]; rfl
    rw [caravanlaw9_SetsOrder.l0]
    rw [if_pos (by omega), rdOf_at _ _ _ hlt]
    cases x with
    | true =>
      rw [if_pos rfl, if_pos (by omega), e1, Option.bind_some, if_pos rfl, w64 (by omega) (by omega)]
      refine order_l0 l0 s b hab hl2 d (i + 1) k true (by omega) (by omega) ?_
      rw [htk, List.mem_append, ← hx]; simp
    | false =>
      rw [if_neg (by decide), if_pos (by omega), e1, Option.bind_some, if_pos rfl, w64 (by omega) (by omega)]
      refine order_l0 l0 s b hab hl2 d (i + 1) k _ (by omega) (by omega) ?_
      rw [htk, List.mem_append, ← hx, beq_iff_eq, toList_iff]
      simp [eq_comm]
theorem SetsOrder (l0 : List ByteArray) (s : ByteArray) (a2 : Int) (h2 : (Lit.int .u8 a2).wf = true) : ∃ k, caravanlaw9_SetsOrder.f k l0 s a2 = some true := by
  refine ⟨11000 + 1, ?_⟩
  have b2 := wf_u8 h2
  have jt : caravanlaw9_SetsOrder.j0 (11000 + 1) l0 s a2 true = some true := by rw [caravanlaw9_SetsOrder.j0, if_pos rfl, awake_f]; rfl
  unfold caravanlaw9_SetsOrder.f
  by_cases h0 : l0.length = 0
  · rw [if_pos (by omega)]; exact jt
  · rw [if_neg (by omega)]
    obtain ⟨g, eg, hg⟩ := great_f l0 (11000 + 1) (by omega)
    rw [eg, Option.bind_some]
    cases g with
    | true => rw [if_pos rfl]; exact jt
    | false =>
      rw [if_neg (by decide)]
      have hl := hg rfl
      by_cases hs : s.size ≤ 200
      · rw [decide_eq_false (by omega), caravanlaw9_SetsOrder.j0]
        obtain ⟨n, rfl⟩ := Int.eq_ofNat_of_zero_le b2.1
        obtain ⟨m, hm⟩ : ∃ m, m = n % l0.length := ⟨_, rfl⟩
        have hml : m < l0.length := by rw [hm]; exact Nat.mod_lt _ (by omega)
        have et : Int.tmod (wrap64 (n : Int)) (l0.length : Int) = (m : Int) := by
          rw [w64 (by omega) (by omega), Int.tmod_eq_emod_of_nonneg (by omega), hm]; omega
        rw [if_neg (by decide), if_neg (by omega), Option.bind_some, et]
        rw [if_pos (by omega), if_pos (by omega), if_pos (by simp; omega), Option.bind_some, if_pos (by simp; omega), Option.bind_some, if_pos (by omega), Option.bind_some, if_pos (by simp; omega)]
        rw [of_f l0 (by omega), Option.bind_some, of_f _ (by simp; omega), Option.bind_some, rdOf_at _ _ _ hml, Int.toNat_natCast]
        refine order_l0 l0 s _ ?_ hl l0.length 0 11000 false (by omega) (by omega) (by simp)
        refine asc_ext _ _ (asc_ofP _) (asc_ofP _) fun x => ?_
        rw [mem_ofP, mem_ofP]
        simp only [List.nil_append, List.mem_append, List.mem_singleton]
        conv => lhs; rw [← List.take_append_drop m l0, List.mem_append]
        constructor
        · rintro (h | h)
          · exact .inl (.inr h)
          · exact .inl (.inl h)
        · rintro ((h | h) | rfl)
          · exact .inr h
          · exact .inl h
          · exact .inr (List.mem_iff_getElem.2 ⟨0, by rw [List.length_drop]; omega, by rw [List.getElem_drop]; simp⟩)
      · rw [decide_eq_true (by omega)]; exact jt
end Go.Proofs.Ytelgfangaigncaa.Pure
