/- The walk of SetsAll: how lists of texts read as an argument, and that it answers true. No conditions. -/
import Derived.Test.YtelgfangaigncaaWSetsOrder
import Derived.Test.YtelgfangaigncaaPureSetsAll
namespace Go.Proofs.Ytelgfangaigncaa
open Go.RowKit Go.Cav Go.Proofs.Ytelgfangaigncaa.G Go.Proofs.YtelgfangaigncaaW.PrintWords
theorem row_K {w : World} {cs : List Value} {x : List ByteArray} (h : rSlice 1 16 rStr w cs x) : (Kd.slice 9 Kd.string).K w x cs := by
  have hv : ∃ v, cs = [v] := by
    rcases h with ⟨rfl, _⟩ | ⟨a, cap, rfl, _⟩ <;> exact ⟨_, rfl⟩
  obtain ⟨v, rfl⟩ := hv
  obtain ⟨A, c, rfl, hc, hC, _⟩ := row_C (d := Kd.string) rfl (by decide) (fun cs x h => h.1) h
  exact ⟨A, c, rfl, hc, hC⟩
theorem setsAll_walk {W : World} (v0 : Value) (l0 : List (List ByteArray)) (h0 : rSlice 1 24 (rSlice 1 16 rStr) W [v0] l0) (a1 : ByteArray) (w1 : a1.size ≤ 140737488351232) :
    Calls Try.prog 5 #[v0, .string a1] W fun e w' => e = .returned (.bool true) ∧ Below W.heap.size W w' := by
  obtain ⟨A, c, rfl, hc, hC, _⟩ := row_C (d := Kd.slice 9 Kd.string) rfl (by decide) (fun cs x h => row_K h) h0
  obtain ⟨k, hk⟩ := Pure.SetsAll l0 a1
  exact caravanlaw9_SetsAll.calls k A c l0 a1 true W hC hc hk rfl
end Go.Proofs.Ytelgfangaigncaa
