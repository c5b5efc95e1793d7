/- What 'May' tells of an item. Conditions: bounds on its elements' number. -/
import Derived.Test.YtbmimcpllpgcaaaId
namespace Go.Proofs.Ytbmimcpllpgcaaa
open Go.RowKit Go.Shelf Go.Cav

attribute [local go_sem] Oper.semAt_some

theorem texts_any (a b c d e : Value) (w : World) : Calls Try.prog 22 #[.agg #[a, b, c, d, e]] w fun r w' => r = .returned (.func (.func 36) #[] #[.pointer (some ⟨w.heap.size, 0, none⟩)]) ∧ w' = w.alloc (.cells #[a, b, c, d, e] 26) := by
  go_enter Try.func22, Try.ntmps22
  go_wp2
  go_ret
  exact ⟨rfl, rfl⟩

theorem texts_stops (F : Fence) (n : Nat) (h7 : F.fn 36) (hro : F.round = none) (hn : 1 ≤ n) (Bs B : Nat) (T : Nat → Prop) (S : ByteArray) (fv lv : Value) (fs : List (ByteArray × ByteArray)) (ls : List ByteArray) (hreach : fs.length ≤ 10000000000) (hreach2 : ls.length ≤ 10000000000) (w : World) (hBs : Bs < w.heap.size)
    (hTB : ¬ T Bs) (hTn : ∀ k, w.heap.size ≤ k → ¬ T k) (hTf : ∀ k, fv.ownBlock = some k → fs ≠ [] → ¬ T k) (hTl : ∀ k, lv.ownBlock = some k → ls ≠ [] → ¬ T k)
    (hB1 : w.cell? ⟨Bs, 1, none⟩ = some (.string S)) (hB2 : w.cell? ⟨Bs, 2, none⟩ = some fv) (hB3 : w.cell? ⟨Bs, 3, none⟩ = some lv) (hF : FieldsAt w fv fs) (hL : ReadsA w 1 lv ls.length (ls.map .string)) :
    IterC F n Try.prog 36 #[.pointer (some ⟨Bs, 0, none⟩)] (fun x : ByteArray => #[.string x]) B T (allTexts S fs ls) w := fun l J Jx W hW hA _ hY h0 =>
  texts1_in W F n h7 hro hn l Bs B T S fs ls fv lv hreach hreach2 hTB (fun k hk => hTn k (Nat.le_trans hW.size hk)) hTf hTl J Jx hA hY ((hW.cell (p := ⟨Bs, 1, none⟩) hBs).trans hB1) ((hW.cell (p := ⟨Bs, 2, none⟩) hBs).trans hB2) ((hW.cell (p := ⟨Bs, 3, none⟩) hBs).trans hB3)
    (hF.below hW) (hL.below hW) h0

/-- How an item lies in a struct's cells. -/
def ItemAt (w : World) (x : ItemV) (fv lv : Value) : Prop := FieldsAt w fv x.fs ∧ ReadsA w 1 lv x.ls.length (x.ls.map .string) ∧ Fit x
def itemCells (x : ItemV) (fv lv : Value) : Array Value := #[.int .i64 x.kind, .string x.s, fv, lv, .int .i64 x.exp]

theorem shaped_any (w : World) (x : ItemV) (fv lv : Value) (h : ItemAt w x fv lv) :
    Calls Try.prog 21 #[.agg (itemCells x fv lv)] w fun e w' => ∃ b : Bool, e = .returned (.bool b) ∧ (b = true ↔ shapedP x) ∧ Below w.heap.size w w' := by
  obtain ⟨hF, hL, hf, hl⟩ := h
  obtain ⟨kind, s, fs, ls, exp⟩ := x
  dsimp only at hF hL hf hl
  unfold itemCells shapedP
  dsimp only
  by_cases k1 : kind = 1
  · subst k1
    obtain ⟨af, cf, rfl, _⟩ := fields_slice hF
    obtain ⟨al, cl, rfl, _⟩ := list_slice hL
    exact (shaped_text w s af al _ _ cf cl exp hf hl).mono fun e w' ⟨b, h1, h2, h3⟩ => ⟨b, h1, by rw [h2]; simp, h3⟩
  · by_cases k2 : kind = 2
    · subst k2
      obtain ⟨al, cl, rfl, _⟩ := list_slice hL
      exact (shaped_hash w s fv fs hF al _ cl exp hf hl).mono fun e w' ⟨b, h1, h2, h3⟩ => ⟨b, h1, by rw [h2]; simp, h3⟩
    · by_cases k3 : kind = 3
      · subst k3
        obtain ⟨af, cf, rfl, _⟩ := fields_slice hF
        obtain ⟨al, cl, rfl, _⟩ := list_slice hL
        exact (shaped_list w s af al _ _ cf cl exp).mono fun e w' ⟨b, h1, h2, h3⟩ => ⟨b, h1, by rw [h2]; simp, h3⟩
      · by_cases k4 : kind = 4
        · subst k4
          obtain ⟨af, cf, rfl, _⟩ := fields_slice hF
          exact (shaped_set w s lv ls hL af _ cf exp hl).mono fun e w' ⟨b, h1, h2, h3⟩ => ⟨b, h1, by rw [h2]; simp, h3⟩
        · obtain ⟨af, cf, rfl, _⟩ := fields_slice hF
          obtain ⟨al, cl, rfl, _⟩ := list_slice hL
          exact (shaped_else w kind s af al _ _ cf cl exp k1 k2 k3 k4).mono fun e w' ⟨h1, h3⟩ => ⟨false, h1, by simp [k1, k2, k3, k4], h3⟩

end Go.Proofs.Ytbmimcpllpgcaaa
