/- slot.Tag, slot.Of over any text. Conditions: the text's length below 10^9; the library's switch is a number. -/
import Derived.Test.YtijploopgmbhfaaDoorSlA
import Derived.Test.YtijploopgmbhfaaDoorShelf
import Derived.Lib.IndexMore
namespace Go.Proofs.YtijploopgmbhfaaDoor
open Go.RowKit Go.Cav
attribute [local go_sem] Oper.semAt_some
/-- what of a key tells where it belongs -/
def tagL (l : List UInt8) : List UInt8 :=
  let c := Lib.cut l [123]
  let d := Lib.cut c.2.1 [125]
  if c.2.2 = true ∧ d.2.2 = true ∧ d.1 ≠ [] then d.1 else l
def tagB (s : ByteArray) : ByteArray := ⟨(tagL s.data.toList).toArray⟩
theorem cut_len (l p : List UInt8) : (Lib.cut l p).1.length ≤ l.length ∧ (Lib.cut l p).2.1.length ≤ l.length := by
  unfold Lib.cut; split
  · exact ⟨by rw [List.length_take]; omega, by rw [List.length_drop]; omega⟩
  · exact ⟨Nat.le_refl _, by simp⟩
theorem tagL_len (l : List UInt8) : (tagL l).length ≤ l.length := by
  simp only [tagL]
  have h1 := (cut_len l [123]).2
  have h2 := (cut_len (Lib.cut l [123]).2.1 [125]).1
  split <;> omega
set_option maxRecDepth 100000 in
set_option maxHeartbeats 4000000 in
theorem tag_calls (s : ByteArray) (hs : s.size ≤ 1000000000) (w : World) (m : Int) (hm : w.cell? ⟨2, 0, none⟩ = some (.int .i64 m)) :
    Calls Tryd.prog 61 #[.string s] w fun e w' => e = .returned (.string (tagB s)) ∧ ∃ n, w' = w.drewN n := by
  have h1 := Tryd.strings_Cut s ⟨#[123]⟩ m w (by omega) hm
  have h2 : ∀ n, Calls Tryd.prog 76 #[.string ⟨(Lib.cut s.data.toList [123]).2.1.toArray⟩, .string ⟨#[125]⟩] (w.drewN n) fun e w' => e = .returned (.tuple #[.string ⟨(Lib.cut (Lib.cut s.data.toList [123]).2.1 [125]).1.toArray⟩, .string ⟨(Lib.cut (Lib.cut s.data.toList [123]).2.1 [125]).2.1.toArray⟩, .bool (Lib.cut (Lib.cut s.data.toList [123]).2.1 [125]).2.2]) ∧ ∃ k, w' = (w.drewN n).drewN k := fun n =>
    Tryd.strings_Cut ⟨(Lib.cut s.data.toList [123]).2.1.toArray⟩ ⟨#[125]⟩ m (w.drewN n) (by
      have := (cut_len s.data.toList [123]).2
      rw [Array.length_toList] at this
      show (Lib.cut s.data.toList [123]).2.1.toArray.size < _
      rw [List.size_toArray]
      have e : s.size = s.data.size := rfl
      omega) (by rw [World.cell?_drewN]; exact hm)
  have ht : tagB s = ⟨(tagL s.data.toList).toArray⟩ := rfl
  simp only [tagL] at ht
  change Calls _ _ _ _ (fun e w' => e = .returned (.tuple #[.string ⟨(Lib.cut s.data.toList [123]).1.toArray⟩, .string ⟨(Lib.cut s.data.toList [123]).2.1.toArray⟩, .bool (Lib.cut s.data.toList [123]).2.2]) ∧ _) at h1
  generalize Lib.cut s.data.toList [123] = c at h1 h2 ht
  obtain ⟨c1, c2, c3⟩ := c
  dsimp only at h1 h2 ht
  generalize Lib.cut c2 [125] = d at h2 ht
  obtain ⟨d1, d2, d3⟩ := d
  dsimp only at h2 ht
  have HT := Lib.hid ht
  clear ht hm
  have H2 := Lib.hid h2
  clear h2
  cases c3 with
  | false =>
    go_enter Tryd.func61, Tryd.ntmps61
    go_wp2_with (first | (go_at_call 76; refine h1.mono ?_; rintro e w1 ⟨rfl, n, rfl⟩; clear h1) | (go_at_call 76; refine (H2.out _).mono ?_; rintro e w1 ⟨rfl, k, rfl⟩))
    go_ret
    refine ⟨?_, n + k, rfl⟩
    show Ending.returned (Value.string _) = _
    rw [HT.out, if_neg (fun h => by simp at h)]
    (try rfl)
  | true =>
    cases d3 with
    | false =>
      go_enter Tryd.func61, Tryd.ntmps61
      go_wp2_with (first | (go_at_call 76; refine h1.mono ?_; rintro e w1 ⟨rfl, n, rfl⟩; clear h1) | (go_at_call 76; refine (H2.out _).mono ?_; rintro e w1 ⟨rfl, k, rfl⟩))
      go_ret
      refine ⟨?_, n + k, rfl⟩
      show Ending.returned (Value.string _) = _
      rw [HT.out, if_neg (fun h => by simp at h)]
      (try rfl)
    | true =>
      cases d1 with
      | nil =>
        go_enter Tryd.func61, Tryd.ntmps61
        go_wp2_with (first | (go_at_call 76; refine h1.mono ?_; rintro e w1 ⟨rfl, n, rfl⟩; clear h1) | (go_at_call 76; refine (H2.out _).mono ?_; rintro e w1 ⟨rfl, k, rfl⟩))
        go_ret
        refine ⟨?_, n + k, rfl⟩
        show Ending.returned (Value.string _) = _
        rw [HT.out, if_neg (fun h => h.2.2 rfl)]
        (try rfl)
      | cons d1 d1' =>
        go_enter Tryd.func61, Tryd.ntmps61
        go_wp2_with (first | (go_at_call 76; refine h1.mono ?_; rintro e w1 ⟨rfl, n, rfl⟩; clear h1) | (go_at_call 76; refine (H2.out _).mono ?_; rintro e w1 ⟨rfl, k, rfl⟩))
        go_ret
        refine ⟨?_, n + k, rfl⟩
        show Ending.returned (Value.string _) = _
        rw [HT.out, if_pos (by simp)]
        (try rfl)
end Go.Proofs.YtijploopgmbhfaaDoor
