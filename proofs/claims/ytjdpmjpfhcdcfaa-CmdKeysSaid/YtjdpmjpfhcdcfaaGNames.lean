/- cmd.Names in the print's words. No conditions. -/
import Derived.Test.YtjdpmjpfhcdcfaaNn
import Derived.Test.YtjdpmjpfhcdcfaaGFind
namespace Go.Proofs.Ytjdpmjpfhcdcfaa.G
open Go.RowKit Go.Cav Go.Proofs.YtjdpmjpfhcdcfaaW Go.Proofs.YtjdpmjpfhcdcfaaW.PrintWords Go.Proofs.YtjdpmjpfhcdcfaaW.PrintLast Go.Proofs.YtjdpmjpfhcdcfaaW.PrintMore
/-- the names, rising -/
def namesP : List ByteArray := (sortL (nmL specL)).map ofL
theorem namesP_length : namesP.length = 54 := by unfold namesP; rw [List.length_map, sortL_length, nmL_length, specL_length]
/-- what reads as texts, told by its footprint -/
theorem V_cells {w : World} {B g cap : Nat} {L : List (List UInt8)} (hl : L.length ≤ 9223372036854775807) (hc : L.length ≤ cap) (hg : B ≤ g) (h : Go.Sort.Holds encStr w g 0 L.toArray) :
    Kd.V Kd.string 9 w B (fun k => B ≤ k) (.slice (some ⟨g, 0, none⟩) (L.map ofL).length cap) (L.map ofL) := by
  refine Kd.V_mk (by rw [List.length_map]; exact hc) ?_
  intro W' hW
  refine ⟨rfl, by simpa using hl, fun hpos => ⟨_, rfl, fun j p hj => ?_⟩⟩
  rw [List.getElem?_map] at hj
  obtain ⟨x, hx, rfl⟩ := Option.map_eq_some_iff.1 hj
  obtain ⟨hj2, rfl⟩ := List.getElem?_eq_some_iff.1 hx
  refine ⟨[.string (ofL L[j])], rfl, rfl, fun i u hu => ?_⟩
  match i, hu with
  | 0, hu =>
    cases hu
    have h1 := holds_cells h j hj2
    have hlt := World.block_lt_of_cell? w _ h1
    have h2 : W'.cell? ⟨g, j, none⟩ = w.cell? ⟨g, j, none⟩ := World.cell?_of_block (hW g hg hlt)
    have ha : (⟨g, 0, none⟩ : Addr).add (j * (Kd.string).sz + 0) = ⟨g, j, none⟩ := by simp only [Kd.string, Kd.scalar]; unfold Addr.add; split <;> simp_all
    rw [ha]; exact h2.trans h1
  | i + 1, hu => simp at hu
def cmd_Names.f : Option (List ByteArray) := some namesP
theorem cmd_Names.calls (r : List ByteArray) (w : World) (h : cmd_Names.f = some r) :
    Calls Try.prog 17 #[] w fun e w' => ∃ v0_ : Value, e = .returned (v0_) ∧ Kd.V Kd.string 9 w' w.heap.size (fun k_ => (w.heap.size ≤ k_)) v0_ r ∧ Below w.heap.size w w' := by
  obtain rfl := Option.some.inj h
  refine (names_any w).mono ?_
  rintro e w' ⟨g, cap, rfl, hcap, hg, hH, hB⟩
  have hl : (sortL (nmL specL)).length = 54 := by rw [sortL_length, nmL_length, specL_length]
  have hv := V_cells (w := w') (B := w.heap.size) (cap := cap) (by omega) (by omega) hg hH
  rw [List.length_map, hl] at hv
  exact ⟨_, rfl, hv, hB⟩
end Go.Proofs.Ytjdpmjpfhcdcfaa.G
