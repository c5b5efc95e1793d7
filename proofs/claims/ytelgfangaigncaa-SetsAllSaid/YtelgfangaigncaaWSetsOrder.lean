/- The walk of SetsOrder: how texts read as arguments, and that it answers true. No conditions. -/
import Derived.Test.YtelgfangaigncaaCavR
import Derived.Test.YtelgfangaigncaaPureSetsOrder
namespace Go.Proofs.Ytelgfangaigncaa
open Go.RowKit Go.Cav Go.Proofs.Ytelgfangaigncaa.G Go.Proofs.YtelgfangaigncaaW.PrintWords
theorem row_C {α : Type} {d : Kd α} {size bytes : Nat} {R : World → List Value → α → Prop} {w : World} {v : Value} {l : List α} (hs : d.sz = size) (_ : 0 < bytes) (hR : ∀ cs x, R w cs x → d.K w x cs) (h : rSlice size bytes R w [v] l) :
    ∃ A c, v = .slice A l.length c ∧ l.length ≤ c ∧ Kd.C d w A l.length l ∧ l.length * bytes ≤ 140737488351232 := by
  subst hs
  rcases h with ⟨h1, rfl⟩ | ⟨a, cap, h1, h2, h3, h4, hel⟩
  · cases h1
    exact ⟨none, 0, rfl, by simp, ⟨rfl, by simp, fun h => by simp at h⟩, by simp⟩
  · cases h1
    refine ⟨some a, cap, rfl, h2, ⟨rfl, by simp only [maxLen] at h4; omega, fun _ => ⟨a, rfl, fun j p hj => ?_⟩⟩, Nat.le_trans (Nat.mul_le_mul_right _ h2) h3⟩
    obtain ⟨ci, q1, q2, q3⟩ := hel j p hj
    exact ⟨ci, q1, hR _ _ q3, q2⟩
theorem setsOrder_walk {W : World} (v0 : Value) (l0 : List ByteArray) (h0 : rSlice 1 16 rStr W [v0] l0) (a1 : ByteArray) (w1 : a1.size ≤ 140737488351232) (a2 : Int) (w2 : (Lit.int .u8 a2).wf = true) :
    Calls Try.prog 4 #[v0, .string a1, .int .u8 a2] W fun e w' => e = .returned (.bool true) ∧ Below W.heap.size W w' := by
  obtain ⟨A, c, rfl, hc, hC, _⟩ := row_C (d := Kd.string) rfl (by decide) (fun cs x h => h.1) h0
  obtain ⟨k, hk⟩ := Pure.SetsOrder l0 a1 a2 w2
  exact caravanlaw9_SetsOrder.calls k A c l0 a1 a2 true W hC hc hk rfl
end Go.Proofs.Ytelgfangaigncaa
