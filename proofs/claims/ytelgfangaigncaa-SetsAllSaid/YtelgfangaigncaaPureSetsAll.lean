/- The plain law of SetsAll: the document's functions on lists of texts come to what the program's come to. No conditions. -/
import Derived.Test.YtelgfangaigncaaG6
import Derived.Test.YtelgfangaigncaaPureSetsOrder
namespace Go.Proofs.Ytelgfangaigncaa.Pure
open Go.RowKit Go.Pk Go.Cav Go.Proofs.Ytelgfangaigncaa Go.Proofs.Ytelgfangaigncaa.G Go.Proofs.YtelgfangaigncaaW.PrintWords Go.Proofs.YtelgfangaigncaaW.PrintLast

theorem shas_l0 (l : List ByteArray) (t : ByteArray) (hl : l.length ≤ 100000) : ∀ (d i k : Nat), i + d = l.length → d + 1 ≤ k → ∃ b, caravanref5_SHas.l0 k l t (i : Int) = some b ∧ (b = true ↔ t ∈ l.drop i)
  | 0, i, k, hi, hk => by
    obtain ⟨k, rfl⟩ : ∃ k', k = k' + 1 := ⟨k - 1, by omega⟩
    refine ⟨false, ?_, by rw [List.drop_of_length_le (by omega)]; simp⟩
    rw [caravanref5_SHas.l0]
    rw [if_neg (by omega)]
  | d + 1, i, k, hi, hk => by
    obtain ⟨k, rfl⟩ : ∃ k', k = k' + 1 := ⟨k - 1, by omega⟩
    have hlt : i < l.length := by omega
    rw [caravanref5_SHas.l0]
    rw [if_pos (by omega), if_pos (by omega), rdOf_at _ _ _ hlt, List.drop_eq_getElem_cons hlt]
    by_cases he : l[i].toList = t.toList
    · rw [if_pos he]
      exact ⟨true, rfl, by simp [toList_inj he]⟩
    · rw [if_neg he, w64 (by omega) (by omega)]
      obtain ⟨b, h1, h2⟩ := shas_l0 l t hl d (i + 1) k (by omega) (by omega)
      refine ⟨b, h1, h2.trans ?_⟩
      rw [List.mem_cons]
      constructor
      · exact fun h => .inr h
      · rintro (h | h)
        · exact absurd (by rw [h]) he
        · exact h
theorem shas_f (l : List ByteArray) (t : ByteArray) (hl : l.length ≤ 1000) (k : Nat) (hk : 1001 ≤ k) : ∃ b, caravanref5_SHas.f k l t = some b ∧ (b = true ↔ t ∈ l) := by
  obtain ⟨b, h1, h2⟩ := shas_l0 l t (by omega) l.length 0 k (by omega) (by omega)
  exact ⟨b, h1, by rw [h2, List.drop_zero]⟩
theorem sadd_l0 (l : List ByteArray) (t : ByteArray) (ha : Asc l) (ht : t ∉ l) (hl : l.length ≤ 100000) : ∀ (d i k : Nat), i + d = l.length → d + 1 ≤ k → (∀ p (h : p < l.length), p < i → ltS l[p] t = true) →
    ∃ r, caravanref5_SAdd.l0 k l t (i : Int) = some r ∧ Asc r ∧ (∀ x, x ∈ r ↔ x ∈ l ∨ x = t) ∧ r.length = l.length + 1 := by
  have fin : ∀ i, i ≤ l.length → (∀ p (h : p < l.length), p < i → ltS l[p] t = true) → (∀ p (h : p < l.length), i ≤ p → ltS t l[p] = true) →
      Asc (l.take i ++ [t] ++ l.drop i) ∧ (∀ x, x ∈ l.take i ++ [t] ++ l.drop i ↔ x ∈ l ∨ x = t) ∧ (l.take i ++ [t] ++ l.drop i).length = l.length + 1 := by
    intro i hi h1 h2
    have g1 : ∀ x ∈ l.take i, ltS x t = true := by
      intro x hx
      obtain ⟨p, hp, rfl⟩ := List.mem_iff_getElem.1 hx
      rw [List.length_take] at hp
      rw [List.getElem_take]
      exact h1 p (by omega) (by omega)
    have g2 : ∀ x ∈ l.drop i, ltS t x = true := by
      intro x hx
      obtain ⟨p, hp, rfl⟩ := List.mem_iff_getElem.1 hx
      rw [List.length_drop] at hp
      rw [List.getElem_drop]
      exact h2 (i + p) (by omega) (by omega)
    refine ⟨?_, fun x => ?_, by simp; omega⟩
    · refine List.pairwise_append.2 ⟨List.pairwise_append.2 ⟨List.Pairwise.sublist (List.take_sublist i l) ha, List.pairwise_singleton _ _, fun x hx y hy => by rw [List.mem_singleton.1 hy]; exact g1 x hx⟩, List.Pairwise.sublist (List.drop_sublist i l) ha, fun x hx y hy => ?_⟩
      rcases List.mem_append.1 hx with h | h
      · exact lt_trans (g1 x h) (g2 y hy)
      · rw [List.mem_singleton.1 h]; exact g2 y hy
    · have e : x ∈ l ↔ x ∈ l.take i ∨ x ∈ l.drop i := by rw [← List.mem_append, List.take_append_drop]
      rw [List.mem_append, List.mem_append, List.mem_singleton, e]
      constructor
      · rintro ((h | h) | h)
        · exact .inl (.inl h)
        · exact .inr h
        · exact .inl (.inr h)
      · rintro ((h | h) | h)
        · exact .inl (.inl h)
        · exact .inr h
        · exact .inl (.inr h)
  intro d
  induction d with
  | zero =>
    intro i k hi hk h1
    obtain ⟨k, rfl⟩ : ∃ k', k = k' + 1 := ⟨k - 1, by omega⟩
    obtain ⟨f1, f2, f3⟩ := fin i (by omega) h1 (fun p h hp => by omega)
    refine ⟨_, ?_, f1, f2, f3⟩
    rw [caravanref5_SAdd.l0]
    rw [if_neg (by omega), Option.bind_some, if_pos (by omega), if_pos (by omega), Int.toNat_natCast, if_pos (by simp; omega), Option.bind_some, if_pos (by simp; omega), Option.bind_some, if_pos (by simp; omega)]
    simp
  | succ d ih =>
    intro i k hi hk h1
    obtain ⟨k, rfl⟩ : ∃ k', k = k' + 1 := ⟨k - 1, by omega⟩
    have hlt : i < l.length := by omega
    rw [caravanref5_SAdd.l0]
    rw [if_pos (by omega), if_pos (by omega), rdOf_at _ _ _ hlt]
    by_cases hq : Op.bytesLess l[i].toList t.toList = true
    · rw [if_pos hq, w64 (by omega) (by omega)]
      exact ih (i + 1) k (by omega) (by omega) (fun p h hp => by
        by_cases e : p = i
        · subst e; exact hq
        · exact h1 p h (by omega))
    · have h2 : ∀ p (h : p < l.length), i ≤ p → ltS t l[p] = true := by
        intro p h hp
        have h3 : ltS t l[i] = true := by
          rcases lt_tri l[i] t with e | e | e
          · exact absurd e hq
          · exact absurd (e ▸ List.getElem_mem hlt) ht
          · exact e
        by_cases e : p = i
        · subst e; exact h3
        · exact lt_trans h3 (List.pairwise_iff_getElem.1 ha i p hlt h (by omega))
      obtain ⟨f1, f2, f3⟩ := fin i (by omega) h1 h2
      refine ⟨_, ?_, f1, f2, f3⟩
      rw [if_neg hq, Option.bind_some, if_pos (by omega), Int.toNat_natCast, if_pos (by simp; omega), Option.bind_some, if_pos (by simp; omega), Option.bind_some, if_pos (by simp; omega)]
      simp
theorem sadd_f (l : List ByteArray) (t : ByteArray) (ha : Asc l) (hl : l.length ≤ 1000) (k : Nat) (hk : 1001 ≤ k) :
    ∃ r, caravanref5_SAdd.f k l t = some r ∧ Asc r ∧ (∀ x, x ∈ r ↔ x ∈ l ∨ x = t) ∧ r.length ≤ l.length + 1 := by
  obtain ⟨b, h1, h2⟩ := shas_f l t hl k hk
  unfold caravanref5_SAdd.f
  rw [h1, Option.bind_some]
  cases b with
  | true =>
    have hm := h2.1 rfl
    rw [if_pos rfl, Option.bind_some, if_pos (by simp; omega)]
    refine ⟨l, rfl, ha, fun x => ⟨fun h => .inl h, ?_⟩, by omega⟩
    rintro (h | rfl)
    · exact h
    · exact hm
  | false =>
    have hm : t ∉ l := fun h => by have := h2.2 h; cases this
    rw [if_neg (by decide)]
    obtain ⟨r, e1, e2, e3, e4⟩ := sadd_l0 l t ha hm (by omega) l.length 0 k (by omega) (by omega) (fun p h hp => by omega)
    exact ⟨r, e1, e2, e3, by omega⟩
theorem sof_l0 (ws : List ByteArray) (hw : ws.length ≤ 900) : ∀ (d i k : Nat) (acc : List ByteArray), i + d = ws.length → 1100 + d ≤ k → Asc acc → acc.length ≤ i →
    ∃ r, caravanref5_SOf.l0 k ws acc (i : Int) = some r ∧ Asc r ∧ ∀ x, x ∈ r ↔ x ∈ acc ∨ x ∈ ws.drop i
  | 0, i, k, acc, hi, hk, ha, hl => by
    obtain ⟨k, rfl⟩ : ∃ k', k = k' + 1 := ⟨k - 1, by omega⟩
    refine ⟨acc, ?_, ha, fun x => by rw [List.drop_of_length_le (by omega)]; simp⟩
    rw [caravanref5_SOf.l0]
    rw [if_neg (by omega)]
  | d + 1, i, k, acc, hi, hk, ha, hl => by
    obtain ⟨k, rfl⟩ : ∃ k', k = k' + 1 := ⟨k - 1, by omega⟩
    have hlt : i < ws.length := by omega
    obtain ⟨a1, e1, e2, e3, e4⟩ := sadd_f acc ws[i] ha (by omega) k (by omega)
    obtain ⟨r, f1, f2, f3⟩ := sof_l0 ws hw d (i + 1) k a1 (by omega) (by omega) e2 (by omega)
    refine ⟨r, ?_, f2, fun x => ?_⟩
    · rw [caravanref5_SOf.l0]
      rw [if_pos (by omega), if_pos (by omega), rdOf_at _ _ _ hlt, e1, Option.bind_some, w64 (by omega) (by omega)]
      exact f1
    · rw [f3, e3, List.drop_eq_getElem_cons hlt, List.mem_cons, or_assoc]
theorem sof_f (ws : List ByteArray) (hw : ws.length ≤ 900) (k : Nat) (hk : 2100 ≤ k) : caravanref5_SOf.f k ws = some (ofP ws) := by
  obtain ⟨r, h1, h2, h3⟩ := sof_l0 ws hw ws.length 0 k [] (by omega) (by omega) Asc.nil (by simp)
  unfold caravanref5_SOf.f
  rw [show (0 : Int) = ((0 : Nat) : Int) from rfl, h1]
  congr 1
  exact asc_ext _ _ h2 (asc_ofP ws) fun x => by rw [h3, mem_ofP]; simp

theorem rdL (xs : List (List ByteArray)) (i : Nat) (h : i < xs.length) : rd_L1 xs (i : Int) = xs[i] := by
  unfold rd_L1; rw [Int.toNat_natCast, List.getD_eq_getElem?_getD, List.getElem?_eq_getElem h]; rfl

/-! ### What all have -/
theorem sboth_l1 (a : List ByteArray) (rest : List (List ByteArray)) (hr : rest.length ≤ 100) (hs : ∀ l ∈ rest, l.length ≤ 1000) (ha : a.length ≤ 1000) (acc : List ByteArray) (i : Nat) (hi : i < a.length) :
    ∀ (d j k : Nat) (f : Bool), j + d = rest.length → 1100 + d ≤ k → (f = true ↔ ∀ l ∈ rest.take j, a[i] ∈ l) →
    ∃ f', caravanref5_SBoth.l1 k (a :: rest) acc (i : Int) f ((j + 1 : Nat) : Int) = (if f' = true then (if acc.length < 8796093022208 then caravanref5_SBoth.l0 (k - d - 1) (a :: rest) (acc ++ [a[i]]) ((i + 1 : Nat) : Int) else none) else caravanref5_SBoth.l0 (k - d - 1) (a :: rest) acc ((i + 1 : Nat) : Int)) ∧ (f' = true ↔ ∀ l ∈ rest, a[i] ∈ l)
  | 0, j, k, f, hj, hk, hf => by
    obtain ⟨k, rfl⟩ : ∃ k', k = k' + 1 := ⟨k - 1, by omega⟩
    rw [List.take_of_length_le (by omega)] at hf
    refine ⟨f, ?_, hf⟩
    rw [caravanref5_SBoth.l1]
    rw [if_neg (by simp; omega)]
    cases f with
    | true =>
      rw [if_pos rfl, if_pos rfl, if_pos (by simp), if_pos (by omega)]
      have e : rd_L1 (a :: rest) 0 = a := rfl
      rw [e, if_pos (by omega), rdOf_at _ _ _ hi, w64 (by omega) (by omega)]
      rfl
    | false =>
      rw [if_neg (by decide), if_neg (by decide), w64 (by omega) (by omega)]
      rfl
  | d + 1, j, k, f, hj, hk, hf => by
    obtain ⟨k, rfl⟩ : ∃ k', k = k' + 1 := ⟨k - 1, by omega⟩
    have hlt : j < rest.length := by omega
    have htk : rest.take (j + 1) = rest.take j ++ [rest[j]] := by rw [List.take_add_one, List.getElem?_eq_getElem hlt]; rfl
    have ek : k + 1 - (d + 1) - 1 = k - d - 1 := by omega
    rw [ek, caravanref5_SBoth.l1]
    rw [if_pos (by simp; omega)]
    have e : rd_L1 (a :: rest) 0 = a := rfl
    have e2 : rd_L1 (a :: rest) ((j + 1 : Nat) : Int) = rest[j] := by rw [rdL _ _ (by simp; omega)]; rfl
    cases f with
    | true =>
      obtain ⟨b, h1, h2⟩ := shas_f rest[j] a[i] (hs _ (List.getElem_mem hlt)) k (by omega)
      rw [if_pos rfl, if_pos (by omega), if_pos (by simp), if_pos (by omega), e, if_pos (by omega), rdOf_at _ _ _ hi, e2, h1, Option.bind_some, w64 (by omega) (by omega)]
      exact sboth_l1 a rest hr hs ha acc i hi d (j + 1) k b (by omega) (by omega) (by
        rw [htk, h2]
        simp only [List.mem_append, List.mem_singleton]
        have hf' := hf.1 rfl
        constructor
        · rintro h l (g | rfl)
          · exact hf' l g
          · exact h
        · intro h; exact h _ (.inr rfl))
    | false =>
      rw [if_neg (by decide), w64 (by omega) (by omega)]
      exact sboth_l1 a rest hr hs ha acc i hi d (j + 1) k false (by omega) (by omega) (by
        rw [htk]
        constructor
        · intro h; cases h
        · intro h
          exact hf.2 (fun l hl => h l (List.mem_append.2 (.inl hl))))
theorem sboth_l0 (a : List ByteArray) (rest : List (List ByteArray)) (hr : rest.length ≤ 100) (hs : ∀ l ∈ rest, l.length ≤ 1000) (ha : a.length ≤ 1000) :
    ∀ (d i k : Nat) (acc : List ByteArray), i + d = a.length → 1300 + 110 * d ≤ k → acc.length ≤ i →
    ∃ r, caravanref5_SBoth.l0 k (a :: rest) acc (i : Int) = some (acc ++ r) ∧ r.Sublist (a.drop i) ∧ ∀ x, x ∈ r ↔ x ∈ a.drop i ∧ ∀ l ∈ rest, x ∈ l
  | 0, i, k, acc, hi, hk, hl => by
    obtain ⟨k, rfl⟩ : ∃ k', k = k' + 2 := ⟨k - 2, by omega⟩
    refine ⟨[], ?_, List.nil_sublist _, fun x => by rw [List.drop_of_length_le (by omega)]; simp⟩
    have e : rd_L1 (a :: rest) 0 = a := rfl
    rw [caravanref5_SBoth.l0]
    rw [if_pos (by simp only [List.length_cons]; omega), if_pos (by simp only [List.length_cons]; omega), e, decide_eq_false (by omega), caravanref5_SBoth.j1]
    rw [if_neg (by decide)]; simp
  | d + 1, i, k, acc, hi, hk, hl => by
    obtain ⟨k, rfl⟩ : ∃ k', k = k' + 2 := ⟨k - 2, by omega⟩
    have hlt : i < a.length := by omega
    have e : rd_L1 (a :: rest) 0 = a := rfl
    obtain ⟨f, h1, h2⟩ := sboth_l1 a rest hr hs ha acc i hlt rest.length 0 k true (by omega) (by omega) (by simp)
    rw [caravanref5_SBoth.l0]
    rw [if_pos (by simp only [List.length_cons]; omega), if_pos (by simp only [List.length_cons]; omega), e, decide_eq_true (by omega), caravanref5_SBoth.j1]
    rw [if_pos rfl, show (1 : Int) = ((0 + 1 : Nat) : Int) from rfl, h1]
    have hlt2 : acc.length < 8796093022208 := by omega
    cases f with
    | true =>
      rw [if_pos rfl, if_pos hlt2]
      obtain ⟨r, g1, g2, g3⟩ := sboth_l0 a rest hr hs ha d (i + 1) (k - rest.length - 1) (acc ++ [a[i]]) (by omega) (by omega) (by simp; omega)
      refine ⟨a[i] :: r, by rw [g1]; simp, by rw [List.drop_eq_getElem_cons hlt]; exact g2.cons_cons _, fun x => ?_⟩
      rw [List.drop_eq_getElem_cons hlt, List.mem_cons, List.mem_cons, g3]
      constructor
      · rintro (rfl | ⟨p, q⟩)
        · exact ⟨.inl rfl, h2.1 rfl⟩
        · exact ⟨.inr p, q⟩
      · rintro ⟨rfl | p, q⟩
        · exact .inl rfl
        · exact .inr ⟨p, q⟩
    | false =>
      rw [if_neg (by decide)]
      obtain ⟨r, g1, g2, g3⟩ := sboth_l0 a rest hr hs ha d (i + 1) (k - rest.length - 1) acc (by omega) (by omega) (by omega)
      refine ⟨r, g1, by rw [List.drop_eq_getElem_cons hlt]; exact g2.trans (List.sublist_cons_self _ _), fun x => ?_⟩
      rw [List.drop_eq_getElem_cons hlt, List.mem_cons, g3]
      constructor
      · rintro ⟨p, q⟩; exact ⟨.inr p, q⟩
      · rintro ⟨rfl | p, q⟩
        · exact absurd (h2.2 q) (by decide)
        · exact ⟨p, q⟩
theorem sboth_f (ls : List (List ByteArray)) (h1 : ls.length ≤ 8) (h2 : ∀ l ∈ ls, l.length ≤ 60 ∧ Asc l) (k : Nat) (hk : 10000 ≤ k) : caravanref5_SBoth.f k ls = some (bothAll ls) := by
  unfold caravanref5_SBoth.f
  cases ls with
  | nil =>
    obtain ⟨k, rfl⟩ : ∃ k', k = k' + 2 := ⟨k - 2, by omega⟩
    rw [caravanref5_SBoth.l0]
    rw [if_neg (by simp), caravanref5_SBoth.j1]
    rw [if_neg (by decide)]; rfl
  | cons a rest =>
    have ha := h2 a (by simp)
    have hr : ∀ l ∈ rest, l.length ≤ 60 ∧ Asc l := fun l hl => h2 l (by simp [hl])
    obtain ⟨r, g1, g2, g3⟩ := sboth_l0 a rest (by simp at h1; omega) (fun l hl => by have := (hr l hl).1; omega) (by omega) a.length 0 k [] (by omega) (by omega) (by simp)
    rw [show (0 : Int) = ((0 : Nat) : Int) from rfl, g1]
    congr 1
    obtain ⟨u, m⟩ := bothP_is rest a ha.2 (fun l hl => (hr l hl).2)
    exact asc_ext _ _ (List.Pairwise.sublist g2 (by rw [List.drop_zero]; exact ha.2)) u fun x => by
      show _ ↔ x ∈ bothP rest a
      rw [List.nil_append, g3, m, List.drop_zero]

/-! ### What any has -/
theorem sunion_l0 (ls : List (List ByteArray)) (h1 : ls.length ≤ 8) (h2 : ∀ l ∈ ls, l.length ≤ 60) : ∀ (d i k : Nat) (acc : List ByteArray), i + d = ls.length → 2200 + d ≤ k → acc.length ≤ 60 * i →
    caravanref5_SUnion.l0 k ls acc (i : Int) = some (ofP (acc ++ (ls.drop i).flatten))
  | 0, i, k, acc, hi, hk, hl => by
    obtain ⟨k, rfl⟩ : ∃ k', k = k' + 1 := ⟨k - 1, by omega⟩
    rw [caravanref5_SUnion.l0]
    rw [if_neg (by omega), sof_f acc (by omega) k (by omega), List.drop_of_length_le (by omega)]
    simp
  | d + 1, i, k, acc, hi, hk, hl => by
    obtain ⟨k, rfl⟩ : ∃ k', k = k' + 1 := ⟨k - 1, by omega⟩
    have hlt : i < ls.length := by omega
    have hli := h2 _ (List.getElem_mem hlt)
    rw [caravanref5_SUnion.l0]
    rw [if_pos (by omega), if_pos (by omega), rdL _ _ hlt, if_pos (by omega), w64 (by omega) (by omega)]
    have := sunion_l0 ls h1 h2 d (i + 1) k (acc ++ ls[i]) (by omega) (by omega) (by rw [List.length_append]; omega)
    rw [show ((i : Int) + 1) = ((i + 1 : Nat) : Int) from by omega, this, List.drop_eq_getElem_cons hlt, List.flatten_cons, List.append_assoc]
theorem sunion_f (ls : List (List ByteArray)) (h1 : ls.length ≤ 8) (h2 : ∀ l ∈ ls, l.length ≤ 60 ∧ Asc l) (k : Nat) (hk : 10000 ≤ k) : caravanref5_SUnion.f k ls = some (unionP ls []) := by
  unfold caravanref5_SUnion.f
  rw [show (0 : Int) = ((0 : Nat) : Int) from rfl, sunion_l0 ls h1 (fun l hl => (h2 l hl).1) ls.length 0 k [] (by omega) (by omega) (by simp)]
  congr 1
  obtain ⟨u, m⟩ := unionP_is ls [] Asc.nil (fun l hl => (h2 l hl).2)
  refine asc_ext _ _ (asc_ofP _) u fun x => ?_
  rw [mem_ofP, m, List.drop_zero, List.nil_append, List.mem_flatten]
  simp

/-! ### One without the others -/
theorem sminus_l1 (a : List ByteArray) (ls : List (List ByteArray)) (hr : ls.length ≤ 100) (hs : ∀ l ∈ ls, l.length ≤ 1000) (ha : a.length ≤ 1000) (acc : List ByteArray) (i : Nat) (hi : i < a.length) :
    ∀ (d j k : Nat) (f : Bool), j + d = ls.length → 1100 + d ≤ k → (f = true ↔ ∃ l ∈ ls.take j, a[i] ∈ l) →
    ∃ f', caravanref5_SMinus.l1 k a ls acc (i : Int) f (j : Int) = (if f' = true then caravanref5_SMinus.l0 (k - d - 1) a ls acc ((i + 1 : Nat) : Int) else (if acc.length < 8796093022208 then caravanref5_SMinus.l0 (k - d - 1) a ls (acc ++ [a[i]]) ((i + 1 : Nat) : Int) else none)) ∧ (f' = true ↔ ∃ l ∈ ls, a[i] ∈ l)
  | 0, j, k, f, hj, hk, hf => by
    obtain ⟨k, rfl⟩ : ∃ k', k = k' + 1 := ⟨k - 1, by omega⟩
    rw [List.take_of_length_le (by omega)] at hf
    refine ⟨f, ?_, hf⟩
    rw [caravanref5_SMinus.l1]
    rw [if_neg (by omega)]
    cases f with
    | true =>
      rw [if_pos rfl, if_pos rfl, w64 (by omega) (by omega)]
      rfl
    | false =>
      simp only [Bool.false_eq_true, if_false]
      rw [if_pos (by omega), if_pos (by omega), rdOf_at _ _ _ hi, w64 (by omega) (by omega)]
      rfl
  | d + 1, j, k, f, hj, hk, hf => by
    obtain ⟨k, rfl⟩ : ∃ k', k = k' + 1 := ⟨k - 1, by omega⟩
    have hlt : j < ls.length := by omega
    have htk : ls.take (j + 1) = ls.take j ++ [ls[j]] := by rw [List.take_add_one, List.getElem?_eq_getElem hlt]; rfl
    have ek : k + 1 - (d + 1) - 1 = k - d - 1 := by omega
    rw [ek, caravanref5_SMinus.l1]
    rw [if_pos (by omega)]
    cases f with
    | true =>
      rw [if_pos rfl, w64 (by omega) (by omega)]
      exact sminus_l1 a ls hr hs ha acc i hi d (j + 1) k true (by omega) (by omega) (by
        obtain ⟨l, g1, g2⟩ := hf.1 rfl
        rw [htk]
        exact ⟨fun _ => ⟨l, List.mem_append.2 (.inl g1), g2⟩, fun _ => rfl⟩)
    | false =>
      obtain ⟨b, h1, h2⟩ := shas_f ls[j] a[i] (hs _ (List.getElem_mem hlt)) k (by omega)
      rw [if_neg (by decide), if_pos (by omega), if_pos (by omega), if_pos (by omega), rdL _ _ hlt, rdOf_at _ _ _ hi, h1, Option.bind_some, w64 (by omega) (by omega)]
      exact sminus_l1 a ls hr hs ha acc i hi d (j + 1) k b (by omega) (by omega) (by
        rw [htk, h2]
        constructor
        · intro h; exact ⟨ls[j], List.mem_append.2 (.inr (List.mem_singleton.2 rfl)), h⟩
        · rintro ⟨l, g1, g2⟩
          rcases List.mem_append.1 g1 with g | g
          · have := hf.2 ⟨l, g, g2⟩; cases this
          · rw [List.mem_singleton.1 g] at g2; exact g2)
theorem sminus_l0 (a : List ByteArray) (ls : List (List ByteArray)) (hr : ls.length ≤ 100) (hs : ∀ l ∈ ls, l.length ≤ 1000) (ha : a.length ≤ 1000) :
    ∀ (d i k : Nat) (acc : List ByteArray), i + d = a.length → 1300 + 110 * d ≤ k → acc.length ≤ i →
    ∃ r, caravanref5_SMinus.l0 k a ls acc (i : Int) = some (acc ++ r) ∧ r.Sublist (a.drop i) ∧ ∀ x, x ∈ r ↔ x ∈ a.drop i ∧ ¬ ∃ l ∈ ls, x ∈ l
  | 0, i, k, acc, hi, hk, hl => by
    obtain ⟨k, rfl⟩ : ∃ k', k = k' + 1 := ⟨k - 1, by omega⟩
    refine ⟨[], ?_, List.nil_sublist _, fun x => by rw [List.drop_of_length_le (by omega)]; simp⟩
    rw [caravanref5_SMinus.l0]
    rw [if_neg (by omega)]; simp
  | d + 1, i, k, acc, hi, hk, hl => by
    obtain ⟨k, rfl⟩ : ∃ k', k = k' + 1 := ⟨k - 1, by omega⟩
    have hlt : i < a.length := by omega
    obtain ⟨f, h1, h2⟩ := sminus_l1 a ls hr hs ha acc i hlt ls.length 0 k false (by omega) (by omega) (by simp)
    rw [caravanref5_SMinus.l0]
    rw [if_pos (by omega), show (0 : Int) = ((0 : Nat) : Int) from rfl, h1]
    have hlt2 : acc.length < 8796093022208 := by omega
    cases f with
    | false =>
      rw [if_neg (by decide), if_pos hlt2]
      obtain ⟨r, g1, g2, g3⟩ := sminus_l0 a ls hr hs ha d (i + 1) (k - ls.length - 1) (acc ++ [a[i]]) (by omega) (by omega) (by simp; omega)
      refine ⟨a[i] :: r, by rw [g1]; simp, by rw [List.drop_eq_getElem_cons hlt]; exact g2.cons_cons _, fun x => ?_⟩
      rw [List.drop_eq_getElem_cons hlt, List.mem_cons, List.mem_cons, g3]
      constructor
      · rintro (rfl | ⟨p, q⟩)
        · exact ⟨.inl rfl, fun h => absurd (h2.2 h) (by decide)⟩
        · exact ⟨.inr p, q⟩
      · rintro ⟨rfl | p, q⟩
        · exact .inl rfl
        · exact .inr ⟨p, q⟩
    | true =>
      rw [if_pos rfl]
      obtain ⟨r, g1, g2, g3⟩ := sminus_l0 a ls hr hs ha d (i + 1) (k - ls.length - 1) acc (by omega) (by omega) (by omega)
      refine ⟨r, g1, by rw [List.drop_eq_getElem_cons hlt]; exact g2.trans (List.sublist_cons_self _ _), fun x => ?_⟩
      rw [List.drop_eq_getElem_cons hlt, List.mem_cons, g3]
      constructor
      · rintro ⟨p, q⟩; exact ⟨.inr p, q⟩
      · rintro ⟨rfl | p, q⟩
        · exact absurd (h2.1 rfl) q
        · exact ⟨p, q⟩
theorem sminus_f (a : List ByteArray) (ls : List (List ByteArray)) (h1 : ls.length ≤ 8) (h2 : ∀ l ∈ ls, l.length ≤ 60 ∧ Asc l) (ha : a.length ≤ 60 ∧ Asc a) (k : Nat) (hk : 10000 ≤ k) :
    caravanref5_SMinus.f k a ls = some (pM a (unionP ls [])) := by
  unfold caravanref5_SMinus.f
  obtain ⟨r, g1, g2, g3⟩ := sminus_l0 a ls (by omega) (fun l hl => by have := (h2 l hl).1; omega) (by omega) a.length 0 k [] (by omega) (by omega) (by simp)
  rw [show (0 : Int) = ((0 : Nat) : Int) from rfl, g1]
  congr 1
  obtain ⟨u, m⟩ := unionP_is ls [] Asc.nil (fun l hl => (h2 l hl).2)
  refine asc_ext _ _ (List.Pairwise.sublist g2 (by rw [List.drop_zero]; exact ha.2)) (asc_pM ha.2 u) fun x => ?_
  rw [List.nil_append, g3, mem_pM ha.2 u, m, List.drop_zero]
  simp

theorem total_le (ls : List (List ByteArray)) (n : Nat) (h : ∀ l ∈ ls, l.length ≤ n) : total ls ≤ n * ls.length := by
  induction ls with
  | nil => simp [total]
  | cons a ls ih =>
    have h1 := ih (fun l hl => h l (by simp [hl]))
    have h2 := h a (by simp)
    simp only [total, List.map_cons, List.sum_cons, List.length_cons] at h1 ⊢
    rw [Nat.mul_add]; omega
theorem all_j2 (ls : List (List ByteArray)) (h1 : ls.length ≤ 8) (h2 : ∀ l ∈ ls, l.length ≤ 60 ∧ Asc l) (k : Nat) (hk : 10100 ≤ k) : caravanlaw9_SetsAll.j2 (k + 1) ls false = some true := by
  rw [caravanlaw9_SetsAll.j2, if_neg (by decide)]
  cases ls with
  | nil => rw [if_pos (by simp), awake_f]; rfl
  | cons a rest =>
    have ha := h2 a (by simp)
    have hr : ∀ l ∈ rest, l.length ≤ 60 ∧ Asc l := fun l hl => h2 l (by simp [hl])
    have ht := total_le rest 60 (fun l hl => (hr l hl).1)
    have hl : rest.length ≤ 7 := by simp at h1; omega
    rw [if_neg (by simp only [List.length_cons]; omega), if_pos (by simp only [List.length_cons]; omega), if_pos (by simp only [List.length_cons]; omega)]
    have e1 : rd_L1 (a :: rest) 0 = a := rfl
    have e2 : (a :: rest).drop 1 = rest := rfl
    have n1 := (twoL_count a (unionP rest [])).1
    rw [e1, e2, minus_f a rest (by omega) (by omega), Option.bind_some, sminus_f a rest (by omega) hr ha k (by omega), Option.bind_some, texts_f _ _ rfl (by omega) k (by omega), Option.bind_some, if_pos rfl, awake_f]
    rfl
theorem all_l0 (xs : List (List ByteArray)) (s : ByteArray) (hx : xs.length ≤ 8) : ∀ (d i k : Nat) (acc : List (List ByteArray)), i + d = xs.length → 11000 + d ≤ k → acc.length = i → (∀ l ∈ acc, l.length ≤ 60 ∧ Asc l) →
    caravanlaw9_SetsAll.l0 k xs s acc (i : Int) = some true
  | 0, i, k, acc, hi, hk, hl, hA => by
    obtain ⟨k, rfl⟩ : ∃ k', k = k' + 2 := ⟨k - 2, by omega⟩
    have ht := total_le acc 60 (fun l hl => (hA l hl).1)
    have lu := unionP_len acc []
    have lb : (bothAll acc).length ≤ 1000 := by
      cases acc with
      | nil => simp [bothAll]
      | cons a rest =>
        have := bothP_len rest a
        simp only [total, List.map_cons, List.sum_cons] at ht
        show (bothP rest a).length ≤ _
        simp only [total] at this
        simp only [List.length_cons] at hl ht
        omega
    rw [caravanlaw9_SetsAll.l0]
    rw [if_neg (by omega), both_f acc (by omega) (by omega), Option.bind_some, sboth_f acc (by omega) hA _ (by omega), Option.bind_some, texts_f _ _ rfl (by omega) _ (by omega), Option.bind_some, if_pos rfl]
    rw [union_f acc (by omega) (by omega), Option.bind_some, sunion_f acc (by omega) hA _ (by omega), Option.bind_some, texts_f _ _ rfl (by simp only [List.length_nil] at lu; omega) _ (by omega), Option.bind_some]
    exact all_j2 acc (by omega) hA k (by omega)
  | d + 1, i, k, acc, hi, hk, hl, hA => by
    obtain ⟨k, rfl⟩ : ∃ k', k = k' + 1 := ⟨k - 1, by omega⟩
    have hlt : i < xs.length := by omega
    rw [caravanlaw9_SetsAll.l0]
    rw [if_pos (by omega), if_pos (by omega), rdL _ _ hlt]
    obtain ⟨g, eg, hg⟩ := great_f xs[i] k (by omega)
    rw [eg, Option.bind_some]
    cases g with
    | true => rw [if_pos rfl, awake_f]; rfl
    | false =>
      have h60 := hg rfl
      have hof := ofP_len xs[i]
      obtain ⟨b, b1, b2⟩ := has_f (ofP xs[i]) s (asc_ofP _) (by omega) k (by omega)
      obtain ⟨c, c1, c2⟩ := shas_f (ofP xs[i]) s (by omega) k (by omega)
      have ebc : b = c := by cases b <;> cases c <;> simp_all
      rw [if_neg (by decide), sof_f xs[i] (by omega) k (by omega), Option.bind_some, if_pos (by omega), Option.bind_some, of_f xs[i] (by omega), Option.bind_some]
      rw [if_pos (by simp only [List.length_append, List.length_singleton]; omega)]
      have er : rd_L1 (acc ++ [ofP xs[i]]) (i : Int) = ofP xs[i] := by
        rw [rdL _ _ (by simp; omega)]
        simp [← hl]
      rw [er, texts_f _ _ rfl (by omega) k (by omega), Option.bind_some, if_pos rfl, b1, Option.bind_some, c1, Option.bind_some, ebc, if_neg (by simp), w64 (by omega) (by omega)]
      exact all_l0 xs s hx d (i + 1) k _ (by omega) (by omega) (by simp [hl]) (by
        intro l hl'
        rcases List.mem_append.1 hl' with h | h
        · exact hA l h
        · rw [List.mem_singleton.1 h]; exact ⟨by omega, asc_ofP _⟩)
theorem SetsAll (xs : List (List ByteArray)) (s : ByteArray) : ∃ k, caravanlaw9_SetsAll.f k xs s = some true := by
  refine ⟨12000 + 1, ?_⟩
  have jt : caravanlaw9_SetsAll.j0 (12000 + 1) xs s true = some true := by rw [caravanlaw9_SetsAll.j0, if_pos rfl, awake_f]; rfl
  unfold caravanlaw9_SetsAll.f
  by_cases h0 : xs.length ≤ 8
  · rw [if_neg (by omega)]
    by_cases hs : s.size ≤ 200
    · rw [decide_eq_false (by omega), caravanlaw9_SetsAll.j0, if_neg (by decide)]
      exact all_l0 xs s h0 xs.length 0 12000 [] (by omega) (by omega) rfl (by simp)
    · rw [decide_eq_true (by omega)]; exact jt
  · rw [if_pos (by omega)]; exact jt
end Go.Proofs.Ytelgfangaigncaa.Pure
