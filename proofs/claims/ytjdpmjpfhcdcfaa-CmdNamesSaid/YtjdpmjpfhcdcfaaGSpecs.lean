/- ref.Specs in the print's words. No conditions. -/
import Derived.Test.YtjdpmjpfhcdcfaaSpS
import Derived.Test.YtjdpmjpfhcdcfaaG0
namespace Go.Proofs.Ytjdpmjpfhcdcfaa.G
open Go.RowKit Go.Cav Go.Proofs.YtjdpmjpfhcdcfaaW.PrintWords Go.Proofs.YtjdpmjpfhcdcfaaW.PrintLast Go.Proofs.YtjdpmjpfhcdcfaaW.PrintMore
def toS (s : SpecV) : S26 := ⟨s.nm, s.least, s.most, s.first, s.last, s.step, s.wr⟩
theorem take7 : ∀ (l : List SpecV) (k : Nat) (s : SpecV), l[k]? = some s → ((l.flatMap encS).drop (k * 7)).take 7 = encS s
  | [], k, s, h => by simp at h
  | a :: l, 0, s, h => by
    cases h
    rw [List.flatMap_cons, Nat.zero_mul, List.drop_zero]
    simp [encS]
  | a :: l, k + 1, s, h => by
    have ih := take7 l k s (by simpa using h)
    rw [List.flatMap_cons, ← ih]
    congr 1
    rw [List.drop_append, List.drop_of_length_le (by simp [encS]; omega), List.nil_append]
    congr 1
    simp [encS]; omega
def caravanref1_Specs.f : Option ((List (S26))) := some (specL.map toS)
theorem caravanref1_Specs.calls (r : List (S26)) (w : World) (h : caravanref1_Specs.f = some r) :
    Calls Try.prog 24 #[] w fun e w' => ∃ v0_ : Value, e = .returned (v0_) ∧ Kd.R k26 26 w' w.heap.size (fun _ => True) v0_ r ∧ Below w.heap.size w w' := by
  cases h
  refine (refSpecs_calls w).mono ?_
  rintro e w' ⟨b, rfl, h1, h2, h3⟩
  refine ⟨_, rfl, ⟨fun _ _ => trivial, specL.flatMap encS, ?_, ?_⟩, h3⟩
  · have hl : (specL.flatMap encS).length = 378 := by rw [← List.size_toArray, ← specCells_list]; kernel_rfl
    refine ⟨by rw [hl, List.length_map, specL_length]; rfl, .inr ⟨b, 54, specCells, by rw [List.length_map, specL_length], h1, h2, by rw [List.length_map, specL_length]; exact Nat.le_refl _, by unfold maxLen; omega, ?_, ?_⟩⟩
    · rw [specCells_list, List.size_toArray, hl]; rfl
    · rw [specCells_list, List.length_map, specL_length, List.toList_toArray]
      exact List.take_of_length_le (by rw [hl]; exact Nat.le_refl _)
  · refine ⟨?_, fun j p hj => ?_⟩
    · have hl : (specL.flatMap encS).length = 378 := by rw [← List.size_toArray, ← specCells_list]; kernel_rfl
      rw [hl, List.length_map, specL_length]; rfl
    · rw [List.getElem?_map] at hj
      obtain ⟨s, hs, rfl⟩ := Option.map_eq_some_iff.1 hj
      have := take7 specL j s hs
      show k26.M _ _ _ _ (((specL.flatMap encS).drop (j * 7)).take 7)
      rw [this]
      exact k26_mkM w' w.heap.size _ (toS s)
end Go.Proofs.Ytjdpmjpfhcdcfaa.G
