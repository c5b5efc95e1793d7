/- Plain laws about the program's functions on sets, as they are printed: sets by numbers, together, in common. No conditions. -/
import Derived.Test.YtelgfangaigncaaPS
import Derived.Test.YtelgfangaigncaaGOf
import Derived.Test.YtelgfangaigncaaG3
import Derived.Test.YtelgfangaigncaaG1
namespace Go.Proofs.Ytelgfangaigncaa.Pure
open Go.RowKit Go.Pk Go.Cav Go.Proofs.Ytelgfangaigncaa Go.Proofs.Ytelgfangaigncaa.G Go.Proofs.YtelgfangaigncaaW.PrintWords Go.Proofs.YtelgfangaigncaaW.PrintLast

theorem asc_ofP (l : List ByteArray) : Asc (ofP l) := ofP_up l
theorem unionP_is : ∀ (ls : List (List ByteArray)) (acc : List ByteArray), Asc acc → (∀ l ∈ ls, Asc l) → Asc (unionP ls acc) ∧ ∀ x, x ∈ unionP ls acc ↔ x ∈ acc ∨ ∃ l ∈ ls, x ∈ l
  | [], acc, ha, _ => ⟨ha, fun x => by simp [unionP]⟩
  | l :: ls, acc, ha, hl => by
    have hl1 : Asc l := hl l (by simp)
    obtain ⟨h1, h2⟩ := unionP_is ls (pU acc l) (asc_pU ha hl1) (fun m hm => hl m (by simp [hm]))
    refine ⟨h1, fun x => ?_⟩
    show x ∈ unionP ls (pU acc l) ↔ _
    rw [h2, mem_pU ha hl1]
    simp only [List.mem_cons, exists_eq_or_imp]
    rw [or_assoc]
theorem bothP_is : ∀ (ls : List (List ByteArray)) (acc : List ByteArray), Asc acc → (∀ l ∈ ls, Asc l) → Asc (bothP ls acc) ∧ ∀ x, x ∈ bothP ls acc ↔ x ∈ acc ∧ ∀ l ∈ ls, x ∈ l
  | [], acc, ha, _ => ⟨ha, fun x => by simp [bothP]⟩
  | l :: ls, acc, ha, hl => by
    have hl1 : Asc l := hl l (by simp)
    obtain ⟨h1, h2⟩ := bothP_is ls (pB acc l) (asc_pB ha hl1) (fun m hm => hl m (by simp [hm]))
    refine ⟨h1, fun x => ?_⟩
    show x ∈ bothP ls (pB acc l) ↔ _
    rw [h2, mem_pB ha hl1]
    simp only [List.mem_cons, forall_eq_or_imp]
    rw [and_assoc]
theorem union_f (ls : List (List ByteArray)) (h1 : ls.length ≤ 1000000000000) (h2 : total ls ≤ 1000000000000) : sets_Union.f ls = some (unionP ls []) := by unfold sets_Union.f; rw [if_pos ⟨h1, h2⟩]
theorem both_f (ls : List (List ByteArray)) (h1 : ls.length ≤ 1000000000000) (h2 : total ls ≤ 1000000000000) : sets_Both.f ls = some (bothAll ls) := by unfold sets_Both.f; rw [if_pos ⟨h1, h2⟩]
theorem minus_f (a : List ByteArray) (ls : List (List ByteArray)) (h1 : ls.length ≤ 1000000000000) (h2 : a.length + total ls ≤ 1000000000000) : sets_Minus.f a ls = some (pM a (unionP ls [])) := by unfold sets_Minus.f; rw [if_pos ⟨h1, h2⟩]
theorem of_f (l : List ByteArray) (h : l.length ≤ 1000000000000) : sets_Of.f l = some (ofP l) := by unfold sets_Of.f; rw [if_pos h]

theorem texts_l0 (l : List ByteArray) (hl : l.length ≤ 100000) : ∀ (d i k : Nat), i + d = l.length → d + 1 ≤ k → caravanref1_Texts.l0 k l l (i : Int) = some true
  | 0, i, k, hi, hk => by
    obtain ⟨k, rfl⟩ : ∃ k', k = k' + 1 := ⟨k - 1, by omega⟩
    rw [caravanref1_Texts.l0]
    rw [if_neg (by omega)]
  | d + 1, i, k, hi, hk => by
    obtain ⟨k, rfl⟩ : ∃ k', k = k' + 1 := ⟨k - 1, by omega⟩
    rw [caravanref1_Texts.l0]
    rw [if_pos (by omega), if_pos (by omega), if_pos (by omega), if_pos rfl, w64 (by omega) (by omega)]
    exact texts_l0 l hl d (i + 1) k (by omega) (by omega)
theorem texts_f (l m : List ByteArray) (e : l = m) (hl : l.length ≤ 10000) (k : Nat) (hk : 10001 ≤ k) : caravanref1_Texts.f k l m = some true := by
  subst e
  unfold caravanref1_Texts.f
  rw [if_pos rfl]
  exact texts_l0 l (by omega) l.length 0 k (by omega) (by omega)

theorem set_l0 (l0 : List Int) (hl : l0.length ≤ 1000) : ∀ (d i k : Nat) (acc : List ByteArray), i + d = l0.length → d + 1 ≤ k → acc.length + d ≤ 10000 →
    ∃ s, caravanlaw9_set.l0 k l0 acc (i : Int) = some (ofP s) ∧ s.length = acc.length + d
  | 0, i, k, acc, hi, hk, ha => by
    obtain ⟨k, rfl⟩ : ∃ k', k = k' + 1 := ⟨k - 1, by omega⟩
    refine ⟨acc, ?_, rfl⟩
    rw [caravanlaw9_set.l0]
    rw [if_neg (by omega), of_f acc (by omega)]; rfl
  | d + 1, i, k, acc, hi, hk, ha => by
    obtain ⟨k, rfl⟩ : ∃ k', k = k' + 1 := ⟨k - 1, by omega⟩
    obtain ⟨s, h1, h2⟩ := set_l0 l0 hl d (i + 1) k (acc ++ [strOfNums [(97 + (Int.tmod (rd l0 (i : Int)) 12)) % 256]]) (by omega) (by omega) (by rw [List.length_append, List.length_singleton]; omega)
    refine ⟨s, ?_, by rw [h2, List.length_append, List.length_singleton]; omega⟩
    rw [caravanlaw9_set.l0]
    rw [if_pos (by omega), if_pos (by omega), if_pos (by omega), w64 (by omega) (by omega)]
    exact h1
theorem set_f (l0 : List Int) (hl : l0.length ≤ 40) (k : Nat) (hk : 100 ≤ k) : ∃ s, caravanlaw9_set.f k l0 = some s ∧ Asc s ∧ s.length ≤ 40 := by
  obtain ⟨s, h1, h2⟩ := set_l0 l0 (by omega) l0.length 0 k [] (by omega) (by omega) (by simp; omega)
  refine ⟨ofP s, h1, asc_ofP s, Nat.le_trans (ofP_len s) ?_⟩
  simp at h2; omega
theorem awake_f : caravanlaw9_awake.f = some true := by
  have e : ofP [(⟨#[98]⟩ : ByteArray), ⟨#[97]⟩, ⟨#[98]⟩] = [(⟨#[97]⟩ : ByteArray), ⟨#[98]⟩] := by
    refine asc_ext _ _ (asc_ofP _) ?_ fun x => ?_
    · refine List.pairwise_cons.2 ⟨fun y hy => ?_, List.pairwise_singleton _ _⟩
      rw [List.mem_singleton.1 hy]
      decide +kernel
    · rw [mem_ofP]
      simp only [List.mem_cons, List.not_mem_nil, or_false]
      constructor
      · rintro (h | h | h)
        · exact .inr h
        · exact .inl h
        · exact .inr h
      · rintro (h | h)
        · exact .inr (.inl h)
        · exact .inl h
  unfold caravanlaw9_awake.f
  rw [of_f _ (by simp), Option.bind_some, e, union_f _ (by simp) (by simp [total]), Option.bind_some]
  decide +kernel

/-! ### Has: the search by halves -/
theorem half_up (i j : Nat) (h : i < j) (hj : j ≤ 1000000000000) : wrap64 ((IntKind.u64.wrap (wrap64 ((i : Int) + (j : Int)))) / 2) = (((i + j) / 2 : Nat) : Int) := by
  rw [w64 (n := (i : Int) + j) (by omega) (by omega), u64w, Int.emod_eq_of_lt (by omega) (by omega)]
  rw [w64 (by omega) (by omega)]
  omega
theorem nan_f (x : ByteArray) : slices_isNaN_string.f x = some false := by unfold slices_isNaN_string.f; simp
theorem less_f (x y : ByteArray) : cmp_Less_string.f x y = some (ltS x y) := by
  unfold cmp_Less_string.f cmp_isNaN_string.f
  simp [ltS]
theorem bs_l0 (l : List ByteArray) (t : ByteArray) (ha : Asc l) (hl : l.length ≤ 1000000) : ∀ (d i j k : Nat), i ≤ j → j ≤ l.length → j - i ≤ d → d + 1 ≤ k →
    (∀ p (h : p < l.length), p < i → ltS l[p] t = true) → (∀ p (h : p < l.length), j ≤ p → ltS l[p] t = false) →
    ∃ r b, slices_BinarySearch_string_string.l0 k l t (l.length : Int) (i : Int) (j : Int) = some (r, b) ∧ (b = true ↔ t ∈ l)
  | d, i, j, k, hij, hj, hd, hk, h1, h2 => by
    obtain ⟨k, rfl⟩ : ∃ k', k = k' + 1 := ⟨k - 1, by omega⟩
    rw [slices_BinarySearch_string_string.l0]
    by_cases hlt : i < j
    · obtain ⟨d, rfl⟩ : ∃ d', d = d' + 1 := ⟨d - 1, by omega⟩
      rw [if_pos (by omega), half_up i j hlt (by omega)]
      obtain ⟨m, hm⟩ : ∃ m, m = (i + j) / 2 := ⟨_, rfl⟩
      rw [← hm]
      have hml : m < l.length := by omega
      rw [if_pos (by omega), if_pos (by omega), rdOf_at _ _ _ hml, less_f, Option.bind_some, w64 (by omega) (by omega)]
      cases hq : ltS l[m] t with
      | true =>
        rw [if_pos rfl]
        exact bs_l0 l t ha hl d (m + 1) j k (by omega) hj (by omega) (by omega) (fun p h hp => by
          by_cases e : p = m
          · subst e; exact hq
          · exact lt_trans (List.pairwise_iff_getElem.1 ha p m h hml (by omega)) hq) h2
      | false =>
        rw [if_neg (by decide)]
        exact bs_l0 l t ha hl d i m k (by omega) (by omega) (by omega) (by omega) h1 (fun p h hp => by
          by_cases e : p = m
          · subst e; exact hq
          · cases hp2 : ltS l[p] t with
            | false => rfl
            | true =>
              have := lt_trans (List.pairwise_iff_getElem.1 ha m p hml h (by omega)) hp2
              rw [hq] at this; cases this)
    · obtain rfl : i = j := by omega
      rw [if_neg (by omega)]
      have key : ∀ p (h : p < l.length), l[p] = t → p = i := fun p h e => by
        rcases Nat.lt_trichotomy p i with g | g | g
        · have := h1 p h g; rw [e] at this; exact (lt_irrefl _ this).elim
        · exact g
        · have hi : i < l.length := by omega
          have a1 := List.pairwise_iff_getElem.1 ha i p hi h g
          rw [e] at a1
          rw [h2 i hi (Nat.le_refl _)] at a1; cases a1
      by_cases hi : i < l.length
      · rw [if_pos (by omega), if_pos (by omega), if_pos (by omega), rdOf_at _ _ _ hi]
        by_cases he : l[i].toList = t.toList
        · rw [if_pos he]
          have e := toList_inj he
          exact ⟨_, _, rfl, by simp; exact List.mem_iff_getElem.2 ⟨i, hi, e⟩⟩
        · rw [if_neg he, nan_f, Option.bind_some, if_neg (by decide)]
          refine ⟨_, _, rfl, by simp; intro hm; obtain ⟨p, hp, e⟩ := List.mem_iff_getElem.1 hm; obtain rfl := key p hp e; exact he (by rw [e])⟩
      · rw [if_neg (by omega)]
        refine ⟨_, _, rfl, by simp; intro hm; obtain ⟨p, hp, e⟩ := List.mem_iff_getElem.1 hm; have := key p hp e; omega⟩
theorem has_f (l : List ByteArray) (t : ByteArray) (ha : Asc l) (hl : l.length ≤ 5000) (k : Nat) (hk : 5001 ≤ k) : ∃ b, sets_Has.f k l t = some b ∧ (b = true ↔ t ∈ l) := by
  obtain ⟨r, b, h, hb⟩ := bs_l0 l t ha (by omega) l.length 0 l.length k (Nat.zero_le _) (Nat.le_refl _) (by omega) (by omega) (fun p h hp => by omega) (fun p h hp => by omega)
  unfold sets_Has.f slices_BinarySearch_string_string.f
  exact ⟨b, by rw [show ((0 : Int)) = ((0 : Nat) : Int) from rfl, h]; rfl, hb⟩
end Go.Proofs.Ytelgfangaigncaa.Pure
