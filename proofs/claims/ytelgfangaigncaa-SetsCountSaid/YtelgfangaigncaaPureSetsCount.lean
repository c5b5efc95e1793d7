/- The plain law of SetsCount: how many are together, in common, without one another. No conditions. -/
import Derived.Test.YtelgfangaigncaaG7
import Derived.Test.YtelgfangaigncaaPT
namespace Go.Proofs.Ytelgfangaigncaa.Pure
open Go.RowKit Go.Pk Go.Cav Go.Proofs.Ytelgfangaigncaa Go.Proofs.Ytelgfangaigncaa.G Go.Proofs.YtelgfangaigncaaW.PrintWords Go.Proofs.YtelgfangaigncaaW.PrintLast

theorem pU_nil (a : List ByteArray) (ha : Asc a) : pU [] a = a := asc_ext _ _ (asc_pU Asc.nil ha) ha fun x => by rw [mem_pU Asc.nil ha]; simp
theorem bool_of {b c : Bool} {p q : Prop} (hb : b = true ↔ p) (hc : c = true ↔ q) (h : p ↔ q) : b = c := by
  cases b <;> cases c <;> simp_all
theorem count_go (k : Nat) (hk : 10100 ≤ k) (l0 l1 : List Int) (a2 : Int) (h0 : l0.length ≤ 40) (h1 : l1.length ≤ 40) : caravanlaw9_SetsCount.j0 (k + 1) l0 l1 a2 false = some true := by
  obtain ⟨a, ea, aa, la⟩ := set_f l0 h0 k (by omega)
  obtain ⟨b, eb, ab, lb⟩ := set_f l1 h1 k (by omega)
  have eu : unionP [a, b] [] = pU a b := by show pU (pU [] a) b = _; rw [pU_nil a aa]
  have eb1 : unionP [b] [] = b := pU_nil b ab
  obtain ⟨n1, n2⟩ := twoL_count a b
  obtain ⟨s, hs⟩ : ∃ s, s = strOfNums [(97 + (Int.tmod a2 13)) % 256] := ⟨_, rfl⟩
  obtain ⟨tu, hu1, hu2⟩ := has_f (pU a b) s (asc_pU aa ab) (by omega) k (by omega)
  obtain ⟨ta, ha1, ha2⟩ := has_f a s aa (by omega) k (by omega)
  obtain ⟨tb, hb1, hb2⟩ := has_f b s ab (by omega) k (by omega)
  obtain ⟨tx, hx1, hx2⟩ := has_f (pB a b) s (asc_pB aa ab) (by omega) k (by omega)
  rw [mem_pU aa ab] at hu2
  rw [mem_pB aa ab] at hx2
  rw [caravanlaw9_SetsCount.j0, if_neg (by decide), ea, Option.bind_some, eb, Option.bind_some, Option.bind_some]
  rw [union_f [a, b] (by simp) (by simp [total]; omega), Option.bind_some, both_f [a, b] (by simp) (by simp [total]; omega), Option.bind_some, minus_f a [b] (by simp) (by simp [total]; omega), Option.bind_some]
  rw [show bothAll [a, b] = pB a b from rfl, eu, eb1, ← hs]
  rw [w64 (n := (a.length : Int) + b.length) (by omega) (by omega), w64 (by omega) (by omega), w64 (by omega) (by omega), if_pos (by omega), if_pos (by omega)]
  simp only [hu1, ha1, hb1, hx1, Option.bind_some, awake_f]
  have e1 : tu = (ta || tb) := by cases tu <;> cases ta <;> cases tb <;> simp_all
  have e2 : tx = (ta && tb) := by cases tx <;> cases ta <;> cases tb <;> simp_all
  subst e1 e2
  cases ta <;> cases tb <;> rfl
theorem SetsCount : caravanlaw9_SetsCount.Pure := by
  intro l0 l1 a2 _ _ _ _ _ _ _
  refine ⟨10100 + 1, ?_⟩
  have jt : caravanlaw9_SetsCount.j0 (10100 + 1) l0 l1 a2 true = some true := by rw [caravanlaw9_SetsCount.j0, if_pos rfl, awake_f]; rfl
  unfold caravanlaw9_SetsCount.f
  by_cases h0 : l0.length ≤ 40
  · rw [if_neg (by omega)]
    by_cases h1 : l1.length ≤ 40
    · rw [decide_eq_false (by omega)]
      exact count_go 10100 (Nat.le_refl _) l0 l1 a2 h0 h1
    · rw [decide_eq_true (by omega)]; exact jt
  · rw [if_pos (by omega)]; exact jt
end Go.Proofs.Ytelgfangaigncaa.Pure
