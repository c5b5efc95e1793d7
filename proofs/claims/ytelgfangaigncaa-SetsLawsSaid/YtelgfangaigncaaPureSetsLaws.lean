/- The plain law of SetsLaws: rising lists with the same members are one. No conditions. -/
import Derived.Test.YtelgfangaigncaaG2
import Derived.Test.YtelgfangaigncaaPT
namespace Go.Proofs.Ytelgfangaigncaa.Pure
open Go.RowKit Go.Pk Go.Cav Go.Proofs.Ytelgfangaigncaa Go.Proofs.Ytelgfangaigncaa.G Go.Proofs.YtelgfangaigncaaW.PrintWords Go.Proofs.YtelgfangaigncaaW.PrintLast

theorem unionP_len0 (ls : List (List ByteArray)) : (unionP ls []).length ≤ total ls := by have := unionP_len ls []; simpa using this
theorem laws_go (k : Nat) (hk : 10100 ≤ k) (l0 l1 l2 : List Int) (h0 : l0.length ≤ 40) (h1 : l1.length ≤ 40) (h2 : l2.length ≤ 40) : caravanlaw9_SetsLaws.j0 (k + 1) l0 l1 l2 false = some true := by
  obtain ⟨a, ea, aa, la⟩ := set_f l0 h0 k (by omega)
  obtain ⟨b, eb, ab, lb⟩ := set_f l1 h1 k (by omega)
  obtain ⟨c, ec, ac, lc⟩ := set_f l2 h2 k (by omega)
  have A3 : ∀ x y z : List ByteArray, Asc x → Asc y → Asc z → ∀ l ∈ [x, y, z], Asc l := by
    intro x y z hx hy hz l hl
    simp only [List.mem_cons, List.not_mem_nil, or_false] at hl
    rcases hl with rfl | rfl | rfl <;> assumption
  have A2 : ∀ x y : List ByteArray, Asc x → Asc y → ∀ l ∈ [x, y], Asc l := by
    intro x y hx hy l hl
    simp only [List.mem_cons, List.not_mem_nil, or_false] at hl
    rcases hl with rfl | rfl <;> assumption
  have A1 : ∀ x : List ByteArray, Asc x → ∀ l ∈ [x], Asc l := by
    intro x hx l hl
    rw [List.mem_singleton.1 hl]; exact hx
  obtain ⟨u1, m1⟩ := unionP_is [a, b, c] [] Asc.nil (A3 _ _ _ aa ab ac)
  obtain ⟨u2, m2⟩ := unionP_is [c, a, b] [] Asc.nil (A3 _ _ _ ac aa ab)
  obtain ⟨u3, m3⟩ := bothP_is [b, c] a aa (A2 _ _ ab ac)
  obtain ⟨u4, m4⟩ := bothP_is [b, a] c ac (A2 _ _ ab aa)
  obtain ⟨u5, m5⟩ := unionP_is [b, c] [] Asc.nil (A2 _ _ ab ac)
  have u6 := asc_pM aa u5
  have m6 := fun x => mem_pM aa u5 x
  obtain ⟨u7, m7⟩ := bothP_is [unionP [b, c] []] a aa (A1 _ u5)
  obtain ⟨u8, m8⟩ := unionP_is [pM a (unionP [b, c] []), bothP [unionP [b, c] []] a] [] Asc.nil (A2 _ _ u6 u7)
  obtain ⟨u9, m9⟩ := unionP_is [b] [] Asc.nil (A1 _ ab)
  have u10 := asc_pM aa u9
  have m10 := fun x => mem_pM aa u9 x
  obtain ⟨u11, m11⟩ := bothP_is [b] (pM a (unionP [b] [])) u10 (A1 _ ab)
  obtain ⟨u12, m12⟩ := unionP_is [] [] Asc.nil (by simp)
  have u13 := asc_pM aa u12
  have m13 := fun x => mem_pM aa u12 x
  simp only [List.mem_cons, List.not_mem_nil, or_false, false_or, exists_eq_or_imp, exists_eq_left, forall_eq_or_imp, forall_eq, exists_false, false_and] at m1 m2 m3 m4 m5 m7 m8 m9 m11 m12
  have e1 : unionP [a, b, c] [] = unionP [c, a, b] [] := asc_ext _ _ u1 u2 fun x => by
    rw [m1, m2]
    by_cases p : x ∈ a <;> by_cases q : x ∈ b <;> by_cases s : x ∈ c <;> simp [p, q, s]
  have e2 : bothP [b, c] a = bothP [b, a] c := asc_ext _ _ u3 u4 fun x => by
    rw [m3, m4]
    by_cases p : x ∈ a <;> by_cases q : x ∈ b <;> by_cases s : x ∈ c <;> simp [p, q, s]
  have e3 : unionP [pM a (unionP [b, c] []), bothP [unionP [b, c] []] a] [] = a := asc_ext _ _ u8 aa fun x => by
    rw [m8, m6, m7, m5]
    by_cases p : x ∈ a <;> by_cases q : x ∈ b <;> by_cases s : x ∈ c <;> simp [p, q, s]
  have e4 : bothP [b] (pM a (unionP [b] [])) = [] := asc_ext _ _ u11 Asc.nil fun x => by
    rw [m11, m10, m9]
    by_cases p : x ∈ a <;> by_cases q : x ∈ b <;> simp [p, q]
  have e5 : pM a (unionP [] []) = a := asc_ext _ _ u13 aa fun x => by
    rw [m13, m12]
    by_cases p : x ∈ a <;> simp [p]
  have l5 := unionP_len0 [b, c]
  have l1 := unionP_len0 [a, b, c]
  have l3 := bothP_len [b, c] a
  have l6 := (twoL_count a (unionP [b, c] [])).1
  have l7 := bothP_len [unionP [b, c] []] a
  have l10 := (twoL_count a (unionP [b] [])).1
  simp only [total, List.map_cons, List.map_nil, List.sum_cons, List.sum_nil] at l5 l1 l3 l7
  clear u1 m1 u2 m2 u3 m3 u4 m4 u5 m5 u6 m6 u7 m7 u8 m8 u9 m9 u10 m10 u11 m11 u12 m12 u13 m13 A3 A2 A1
  rw [caravanlaw9_SetsLaws.j0, if_neg (by decide), ea, Option.bind_some, eb, Option.bind_some, ec, Option.bind_some]
  rw [union_f [a, b, c] (by simp) (by simp [total]; omega), Option.bind_some, union_f [c, a, b] (by simp) (by simp [total]; omega), Option.bind_some]
  rw [texts_f _ _ e1 (by omega) k (by omega), Option.bind_some, if_pos rfl]
  rw [both_f [a, b, c] (by simp) (by simp [total]; omega), Option.bind_some, both_f [c, b, a] (by simp) (by simp [total]; omega), Option.bind_some]
  rw [texts_f (bothAll [a, b, c]) (bothAll [c, b, a]) e2 (by show (bothP [b, c] a).length ≤ _; omega) k (by omega), Option.bind_some, if_pos rfl]
  rw [minus_f a [b, c] (by simp) (by simp [total]; omega), Option.bind_some, union_f [b, c] (by simp) (by simp [total]; omega), Option.bind_some]
  rw [both_f [a, unionP [b, c] []] (by simp) (by simp [total]; omega), Option.bind_some]
  rw [show bothAll [a, unionP [b, c] []] = bothP [unionP [b, c] []] a from rfl]
  rw [union_f [pM a (unionP [b, c] []), bothP [unionP [b, c] []] a] (by simp) (by simp [total]; omega), Option.bind_some]
  rw [texts_f _ _ e3 (by rw [e3]; omega) k (by omega), Option.bind_some, if_pos rfl]
  rw [minus_f a [b] (by simp) (by simp [total]; omega), Option.bind_some, both_f [pM a (unionP [b] []), b] (by simp) (by simp [total]; omega), Option.bind_some]
  rw [show bothAll [pM a (unionP [b] []), b] = bothP [b] (pM a (unionP [b] [])) from rfl, e4, if_pos (by simp)]
  rw [both_f [a] (by simp) (by simp [total]; omega), Option.bind_some, texts_f (bothAll [a]) a rfl (by show a.length ≤ _; omega) k (by omega), Option.bind_some, if_pos rfl]
  rw [minus_f a [] (by simp) (by simp [total]; omega), Option.bind_some, texts_f _ _ e5 (by rw [e5]; omega) k (by omega), Option.bind_some, if_pos rfl, awake_f]
  rfl
theorem SetsLaws : caravanlaw9_SetsLaws.Pure := by
  intro l0 l1 l2 _ _ _ _ _ _ _ _ _
  refine ⟨10100 + 1, ?_⟩
  have jt : caravanlaw9_SetsLaws.j0 (10100 + 1) l0 l1 l2 true = some true := by rw [caravanlaw9_SetsLaws.j0, if_pos rfl, awake_f]; rfl
  unfold caravanlaw9_SetsLaws.f
  by_cases h0 : l0.length ≤ 40
  · rw [if_neg (by omega)]
    by_cases h1 : l1.length ≤ 40
    · rw [if_neg (by omega)]
      by_cases h2 : l2.length ≤ 40
      · rw [decide_eq_false (by omega)]
        exact laws_go 10100 (Nat.le_refl _) l0 l1 l2 h0 h1 h2
      · rw [decide_eq_true (by omega)]; exact jt
    · rw [if_pos (by omega)]; exact jt
  · rw [if_pos (by omega)]; exact jt
end Go.Proofs.Ytelgfangaigncaa.Pure
