/- The commands as a list, and what the iterator 'all' hands on. No conditions. -/
import Derived.Test.YtjdpmjpfhcdcfaaSp
import Derived.Test.YtjdpmjpfhcdcfaaCavC
namespace Go.Proofs.Ytjdpmjpfhcdcfaa
open Go.RowKit Go.Shelf Go.Cav
attribute [local go_sem] Oper.semAt_some

structure SpecV where
  nm : ByteArray
  least : Int
  most : Int
  first : Int
  last : Int
  step : Int
  wr : Bool
def encS (s : SpecV) : List Value := [.string s.nm, .int .i64 s.least, .int .i64 s.most, .int .i64 s.first, .int .i64 s.last, .int .i64 s.step, .bool s.wr]
/-- all commands -/
def specL : List SpecV := [
  ⟨⟨#[80, 73, 78, 71]⟩, 1, 1, 0, 0, 0, false⟩,
  ⟨⟨#[71, 69, 84]⟩, 2, 2, 1, 1, 1, false⟩,
  ⟨⟨#[83, 69, 84]⟩, 3, 3, 1, 1, 1, true⟩,
  ⟨⟨#[83, 69, 84, 78, 88]⟩, 3, 3, 1, 1, 1, true⟩,
  ⟨⟨#[83, 69, 84, 69, 88]⟩, 4, 4, 1, 1, 1, true⟩,
  ⟨⟨#[71, 69, 84, 83, 69, 84]⟩, 3, 3, 1, 1, 1, true⟩,
  ⟨⟨#[65, 80, 80, 69, 78, 68]⟩, 3, 3, 1, 1, 1, true⟩,
  ⟨⟨#[83, 84, 82, 76, 69, 78]⟩, 2, 2, 1, 1, 1, false⟩,
  ⟨⟨#[71, 69, 84, 82, 65, 78, 71, 69]⟩, 4, 4, 1, 1, 1, false⟩,
  ⟨⟨#[83, 69, 84, 82, 65, 78, 71, 69]⟩, 4, 4, 1, 1, 1, true⟩,
  ⟨⟨#[73, 78, 67, 82]⟩, 2, 2, 1, 1, 1, true⟩,
  ⟨⟨#[68, 69, 67, 82]⟩, 2, 2, 1, 1, 1, true⟩,
  ⟨⟨#[73, 78, 67, 82, 66, 89]⟩, 3, 3, 1, 1, 1, true⟩,
  ⟨⟨#[68, 69, 67, 82, 66, 89]⟩, 3, 3, 1, 1, 1, true⟩,
  ⟨⟨#[77, 71, 69, 84]⟩, 2, 0, 1, (-1), 1, false⟩,
  ⟨⟨#[77, 83, 69, 84]⟩, 3, 0, 1, (-1), 2, true⟩,
  ⟨⟨#[77, 83, 69, 84, 78, 88]⟩, 3, 0, 1, (-1), 2, true⟩,
  ⟨⟨#[68, 69, 76]⟩, 2, 0, 1, (-1), 1, true⟩,
  ⟨⟨#[69, 88, 73, 83, 84, 83]⟩, 2, 0, 1, (-1), 1, false⟩,
  ⟨⟨#[84, 89, 80, 69]⟩, 2, 2, 1, 1, 1, false⟩,
  ⟨⟨#[69, 88, 80, 73, 82, 69]⟩, 3, 3, 1, 1, 1, true⟩,
  ⟨⟨#[84, 84, 76]⟩, 2, 2, 1, 1, 1, false⟩,
  ⟨⟨#[80, 69, 82, 83, 73, 83, 84]⟩, 2, 2, 1, 1, 1, true⟩,
  ⟨⟨#[82, 69, 78, 65, 77, 69]⟩, 3, 3, 1, 2, 1, true⟩,
  ⟨⟨#[72, 83, 69, 84]⟩, 4, 0, 1, 1, 1, true⟩,
  ⟨⟨#[72, 71, 69, 84]⟩, 3, 3, 1, 1, 1, false⟩,
  ⟨⟨#[72, 68, 69, 76]⟩, 3, 0, 1, 1, 1, true⟩,
  ⟨⟨#[72, 76, 69, 78]⟩, 2, 2, 1, 1, 1, false⟩,
  ⟨⟨#[72, 69, 88, 73, 83, 84, 83]⟩, 3, 3, 1, 1, 1, false⟩,
  ⟨⟨#[72, 75, 69, 89, 83]⟩, 2, 2, 1, 1, 1, false⟩,
  ⟨⟨#[72, 86, 65, 76, 83]⟩, 2, 2, 1, 1, 1, false⟩,
  ⟨⟨#[72, 71, 69, 84, 65, 76, 76]⟩, 2, 2, 1, 1, 1, false⟩,
  ⟨⟨#[72, 73, 78, 67, 82, 66, 89]⟩, 4, 4, 1, 1, 1, true⟩,
  ⟨⟨#[72, 77, 71, 69, 84]⟩, 3, 0, 1, 1, 1, false⟩,
  ⟨⟨#[76, 80, 85, 83, 72]⟩, 3, 0, 1, 1, 1, true⟩,
  ⟨⟨#[82, 80, 85, 83, 72]⟩, 3, 0, 1, 1, 1, true⟩,
  ⟨⟨#[76, 80, 79, 80]⟩, 2, 2, 1, 1, 1, true⟩,
  ⟨⟨#[82, 80, 79, 80]⟩, 2, 2, 1, 1, 1, true⟩,
  ⟨⟨#[76, 76, 69, 78]⟩, 2, 2, 1, 1, 1, false⟩,
  ⟨⟨#[76, 82, 65, 78, 71, 69]⟩, 4, 4, 1, 1, 1, false⟩,
  ⟨⟨#[76, 73, 78, 68, 69, 88]⟩, 3, 3, 1, 1, 1, false⟩,
  ⟨⟨#[76, 83, 69, 84]⟩, 4, 4, 1, 1, 1, true⟩,
  ⟨⟨#[76, 84, 82, 73, 77]⟩, 4, 4, 1, 1, 1, true⟩,
  ⟨⟨#[76, 82, 69, 77]⟩, 4, 4, 1, 1, 1, true⟩,
  ⟨⟨#[83, 65, 68, 68]⟩, 3, 0, 1, 1, 1, true⟩,
  ⟨⟨#[83, 82, 69, 77]⟩, 3, 0, 1, 1, 1, true⟩,
  ⟨⟨#[83, 67, 65, 82, 68]⟩, 2, 2, 1, 1, 1, false⟩,
  ⟨⟨#[83, 73, 83, 77, 69, 77, 66, 69, 82]⟩, 3, 3, 1, 1, 1, false⟩,
  ⟨⟨#[83, 77, 69, 77, 66, 69, 82, 83]⟩, 2, 2, 1, 1, 1, false⟩,
  ⟨⟨#[83, 80, 79, 80]⟩, 2, 2, 1, 1, 1, true⟩,
  ⟨⟨#[83, 77, 79, 86, 69]⟩, 4, 4, 1, 2, 1, true⟩,
  ⟨⟨#[83, 73, 78, 84, 69, 82]⟩, 2, 0, 1, (-1), 1, false⟩,
  ⟨⟨#[83, 85, 78, 73, 79, 78]⟩, 2, 0, 1, (-1), 1, false⟩,
  ⟨⟨#[83, 68, 73, 70, 70]⟩, 2, 0, 1, (-1), 1, false⟩]
theorem specL_length : specL.length = 54 := rfl
theorem specCells_list : specCells = (specL.flatMap encS).toArray := by kernel_rfl
theorem flat7 : ∀ (l : List SpecV) (k j : Nat) (s : SpecV), l[k]? = some s → j < 7 → (l.flatMap encS)[k * 7 + j]? = (encS s)[j]?
  | [], k, j, s, h, _ => by simp at h
  | a :: l, 0, j, s, h, hj => by
    cases h
    rw [List.flatMap_cons, List.getElem?_append_left (by simp [encS]; omega)]
    simp
  | a :: l, k + 1, j, s, h, hj => by
    have ih := flat7 l k j s (by simpa using h) hj
    rw [List.flatMap_cons, List.getElem?_append_right (by simp [encS]; omega)]
    rw [← ih]
    congr 1
    simp [encS]; omega
/-- the cells of the list stand from ad on -/
def SpecsAt (W : World) (ad : Addr) : Prop := ∀ k s, specL[k]? = some s → W.cell? (ad.add (k * 7)) = some (.string s.nm) ∧
  W.cell? ⟨(ad.add (k * 7)).block, (ad.add (k * 7)).off + 1, none⟩ = some (.int .i64 s.least) ∧ W.cell? ⟨(ad.add (k * 7)).block, (ad.add (k * 7)).off + 2, none⟩ = some (.int .i64 s.most) ∧
  W.cell? ⟨(ad.add (k * 7)).block, (ad.add (k * 7)).off + 3, none⟩ = some (.int .i64 s.first) ∧ W.cell? ⟨(ad.add (k * 7)).block, (ad.add (k * 7)).off + 4, none⟩ = some (.int .i64 s.last) ∧
  W.cell? ⟨(ad.add (k * 7)).block, (ad.add (k * 7)).off + 5, none⟩ = some (.int .i64 s.step) ∧ W.cell? ⟨(ad.add (k * 7)).block, (ad.add (k * 7)).off + 6, none⟩ = some (.bool s.wr)
theorem specs_at (w : World) : Calls Try.prog 30 #[] w fun e w' => ∃ ad, e = .returned (.slice (some ad) 54 54) ∧ ad.block = w.heap.size ∧ w.grownBy w' none ∧ Below w.heap.size w w' ∧ SpecsAt w' ad := by
  refine (specs_calls w).mono ?_
  rintro e w' ⟨rfl, rfl⟩
  refine ⟨_, rfl, rfl, Stir.grownBy ((Stir.refl _ w).alloc _), (Below.refl _ w).alloc (Nat.le_refl _) _, fun k s hs => ?_⟩
  have hadd : ∀ m, (⟨w.heap.size, 0, none⟩ : Addr).add m = ⟨w.heap.size, m, none⟩ := fun m => by unfold Addr.add; split <;> simp_all
  have hc : ∀ j, j < 7 → (w.alloc (.cells specCells 26)).cell? ⟨w.heap.size, k * 7 + j, none⟩ = (encS s)[j]? := fun j hj => by
    unfold World.cell?
    rw [heap_alloc_new]
    show specCells[k * 7 + j]? = _
    rw [specCells_list, List.getElem?_toArray]
    exact flat7 _ _ _ _ hs hj
  rw [hadd]
  exact ⟨hc 0 (by omega), hc 1 (by omega), hc 2 (by omega), hc 3 (by omega), hc 4 (by omega), hc 5 (by omega), hc 6 (by omega)⟩

end Go.Proofs.Ytjdpmjpfhcdcfaa
