/- What text.Number and text.Add answer, where strconv's variables hold what they are laid with. Condition: the text's length below 2^48. -/
import Derived.Test.YtfmhhahhomnkbaaDoorProg
import Derived.Test.YtfmhhahhomnkbaaDoorCavA
import Derived.Test.YtfmhhahhomnkbaaDoorShelf
import Derived.Test.YtfmhhahhomnkbaaDoorPK
import Derived.Lib.AppendIntMem
namespace Go.Proofs.YtfmhhahhomnkbaaDoor
open Go.RowKit Go.Cav

/-- strconv's variables are as they are laid -/
structure Wd (w : World) : Prop where
  tab : Lib.TabIs Tryd.prog w "internal/strconv.uint64pow10" .u64 Lib.pow10Tab
  syn : ∃ ev, w.cell? ⟨0, 0, none⟩ = some ev ∧ (ev = .nilIface ∨ ∃ te pe, ev = .iface te pe)
  rng : ∃ ev, w.cell? ⟨1, 0, none⟩ = some ev ∧ (ev = .nilIface ∨ ∃ te pe, ev = .iface te pe)
theorem Wd.of {w w' : World} (h : Wd w) (hb : Below w.heap.size w w') : Wd w' := by
  refine ⟨(Lib.tabBelow_of_tabIs h.tab) w' hb, ?_, ?_⟩
  · obtain ⟨ev, h1, h2⟩ := h.syn
    exact ⟨ev, (Stir.of_below hb (fun _ => False)).cell h1 (fun e => e), h2⟩
  · obtain ⟨ev, h1, h2⟩ := h.rng
    exact ⟨ev, (Stir.of_below hb (fun _ => False)).cell h1 (fun e => e), h2⟩

/-- the number that a text is -/
def numP (s : ByteArray) : Option Int :=
  match Lib.atoiAll s.data.toList with
  | .ok v => if Lib.itoa v = s.data.toList then some v else none
  | _ => none

theorem grow_b (w : World) (k : Nat) (os : Array Obj) : Below w.heap.size w (Sort.grow (w.drewN k) os) := by
  have h := (Stir.refl (fun _ => False) w).drewN k
  have h2 : Stir (fun _ => False) (w.drewN k) (Sort.grow (w.drewN k) os) := ⟨rfl, rfl, rfl, by simp [Sort.grow], fun i hi _ => by simp only [Sort.grow]; rw [Array.getElem?_append_left hi]⟩
  exact (h.trans h2 (fun _ _ e => e)).below (Nat.le_refl _) (fun _ e => e.elim)
theorem atoi_ok_below {w w' : World} (h : w' = w ∨ ∃ t, w' = Lib.bytesWorld w 5 t) : Below w.heap.size w w' := by
  rcases h with rfl | ⟨t, rfl⟩
  · exact Below.refl _ _
  · exact Lib.bytesWorld_below _ _ _

set_option maxRecDepth 100000 in
set_option maxHeartbeats 2000000 in
theorem number_any (s : ByteArray) (hs : s.size ≤ 281474976710656) (w : World) (hW : Wd w) :
    Calls Tryd.prog 8 #[.string s] w fun e w' => e = .returned (.tuple #[.int .i64 ((numP s).getD 0), .bool (numP s).isSome]) ∧ Below w.heap.size w w' := by
  obtain ⟨ev0, hv0, he0⟩ := hW.syn
  obtain ⟨ev1, hv1, he1⟩ := hW.rng
  unfold numP
  cases hc : Lib.atoiAll s.data.toList with
  | «syntax» =>
    have hA := Tryd.strconv_Atoi_syntax s hs hc ev0 w hv0 he0
    go_enter Tryd.func8, Tryd.ntmps8
    go_wp2_with (go_at_call 17; refine hA.mono ?_; rintro e w1 ⟨N, rfl, -, -, hb⟩)
    go_ret2
    exact ⟨rfl, hb⟩
  | range =>
    have hA := Tryd.strconv_Atoi_range s hs hc ev1 w hv1 he1
    generalize Lib.atoiSat s.data.toList = sat at hA
    go_enter Tryd.func8, Tryd.ntmps8
    go_wp2_with (go_at_call 17; refine hA.mono ?_; rintro e w1 ⟨N, rfl, -, -, hb⟩)
    go_ret2
    exact ⟨rfl, hb⟩
  | ok v =>
    have hA := Tryd.strconv_Atoi_ok s (by omega) v hc w
    obtain ⟨b0, b1⟩ := Lib.atoiAll_bounds hc
    have hI : ∀ w1, Below w.heap.size w w1 → Calls Tryd.prog 18 #[.int .i64 v] w1 fun e w' => e = .returned (.string ⟨(Lib.itoa v).toArray⟩) ∧ Below w.heap.size w w' := fun w1 hb =>
      (Tryd.strconv_Itoa v b0 b1 w1 (hW.of hb).tab).mono fun e w' ⟨h1, k, os, h2⟩ => ⟨h1, hb.trans (by subst h2; exact (grow_b w1 k os).mono hb.size)⟩
    by_cases hi : Lib.itoa v = s.data.toList
    · have q : ((⟨(Lib.itoa v).toArray⟩ : ByteArray).toList == s.toList) = true := by rw [Pk.toList_data, Pk.toList_data, beq_iff_eq]; simpa using hi
      dsimp only
      rw [if_pos hi]
      clear hi hc
      generalize (⟨(Lib.itoa v).toArray⟩ : ByteArray) = it at hI q
      go_enter Tryd.func8, Tryd.ntmps8
      go_wp2_with (first | (go_at_call 17; refine hA.mono ?_; rintro e w1 ⟨rfl, hb⟩; have hb := atoi_ok_below hb) | (go_at_call 18; refine (hI _ hb).mono ?_; rintro e w2 ⟨rfl, hb2⟩))
      go_ret2
      exact ⟨rfl, hb2⟩
    · have q : ((⟨(Lib.itoa v).toArray⟩ : ByteArray).toList == s.toList) = false := by rw [Pk.toList_data, Pk.toList_data, beq_eq_false_iff_ne]; simpa using hi
      dsimp only
      rw [if_neg hi]
      clear hi hc
      generalize (⟨(Lib.itoa v).toArray⟩ : ByteArray) = it at hI q
      go_enter Tryd.func8, Tryd.ntmps8
      go_wp2_with (first | (go_at_call 17; refine hA.mono ?_; rintro e w1 ⟨rfl, hb⟩; have hb := atoi_ok_below hb) | (go_at_call 18; refine (hI _ hb).mono ?_; rintro e w2 ⟨rfl, hb2⟩))
      go_ret2
      exact ⟨rfl, hb2⟩

/-- a number's text, with a number added -/
def addP (s : ByteArray) (n : Int) : Option ByteArray :=
  match numP s with
  | none => none
  | some a => if decide (wrap64 (a + n) > a) = decide (n > 0) then some ⟨(Lib.itoa (wrap64 (a + n))).toArray⟩ else none

set_option maxRecDepth 100000 in
set_option maxHeartbeats 2000000 in
theorem add_any (s : ByteArray) (n : Int) (hs : s.size ≤ 281474976710656) (w : World) (hW : Wd w) :
    Calls Tryd.prog 10 #[.string s, .int .i64 n] w fun e w' => e = .returned (.tuple #[.string ((addP s n).getD ⟨#[]⟩), .bool (addP s n).isSome]) ∧ Below w.heap.size w w' := by
  have hN := number_any s hs w hW
  unfold addP
  cases hc : numP s with
  | none =>
    rw [hc] at hN
    simp only [Option.getD_none, Option.isSome_none] at hN
    go_enter Tryd.func10, Tryd.ntmps10
    go_wp2_with (first | (go_at_call 8; refine hN.mono ?_; rintro e w1 ⟨rfl, hb⟩))
    go_ret2
    exact ⟨rfl, hb⟩
  | some a =>
    rw [hc] at hN
    simp only [Option.getD_some, Option.isSome_some] at hN
    obtain ⟨sum, hsum⟩ : ∃ x, x = wrap64 (a + n) := ⟨_, rfl⟩
    have hbd : -9223372036854775808 ≤ sum ∧ sum ≤ 9223372036854775807 := by rw [hsum]; unfold wrap64; omega
    have hI : ∀ w1, Below w.heap.size w w1 → Calls Tryd.prog 18 #[.int .i64 sum] w1 fun e w' => e = .returned (.string ⟨(Lib.itoa sum).toArray⟩) ∧ Below w.heap.size w w' := fun w1 hb =>
      (Tryd.strconv_Itoa sum hbd.1 hbd.2 w1 (hW.of hb).tab).mono fun e w' ⟨h1, k, os, h2⟩ => ⟨h1, hb.trans (by subst h2; exact (grow_b w1 k os).mono hb.size)⟩
    dsimp only
    rw [← hsum]
    have hw := hsum.symm
    clear hsum hc hbd
    cases d1 : decide (a < sum) <;> cases d2 : decide (0 < n)
    · rw [if_pos rfl]
      go_enter Tryd.func10, Tryd.ntmps10
      go_wp2_with (first | (go_at_call 8; refine hN.mono ?_; rintro e w1 ⟨rfl, hb⟩) | (go_at_call 18; (try rw [hw]); refine (hI _ hb).mono ?_; rintro e w2 ⟨rfl, hb2⟩))
      go_ret2
      exact ⟨rfl, hb2⟩
    · rw [if_neg (by decide)]
      go_enter Tryd.func10, Tryd.ntmps10
      go_wp2_with (first | (go_at_call 8; refine hN.mono ?_; rintro e w1 ⟨rfl, hb⟩) | (go_at_call 18; (try rw [hw]); refine (hI _ hb).mono ?_; rintro e w2 ⟨rfl, hb2⟩))
      go_ret2
      exact ⟨rfl, hb⟩
    · rw [if_neg (by decide)]
      go_enter Tryd.func10, Tryd.ntmps10
      go_wp2_with (first | (go_at_call 8; refine hN.mono ?_; rintro e w1 ⟨rfl, hb⟩) | (go_at_call 18; (try rw [hw]); refine (hI _ hb).mono ?_; rintro e w2 ⟨rfl, hb2⟩))
      go_ret2
      exact ⟨rfl, hb⟩
    · rw [if_pos rfl]
      go_enter Tryd.func10, Tryd.ntmps10
      go_wp2_with (first | (go_at_call 8; refine hN.mono ?_; rintro e w1 ⟨rfl, hb⟩) | (go_at_call 18; (try rw [hw]); refine (hI _ hb).mono ?_; rintro e w2 ⟨rfl, hb2⟩))
      go_ret2
      exact ⟨rfl, hb2⟩
end Go.Proofs.YtfmhhahhomnkbaaDoor
