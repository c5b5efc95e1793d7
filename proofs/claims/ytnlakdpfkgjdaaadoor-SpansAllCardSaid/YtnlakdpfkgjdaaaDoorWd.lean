/- strconv's variables as they are laid, what Atoi answers. Condition: the texts' lengths below 2^40. -/
import Derived.Test.YtnlakdpfkgjdaaaDoorProg
import Derived.Test.YtnlakdpfkgjdaaaDoorCavA
import Derived.Test.YtnlakdpfkgjdaaaDoorCavCut
import Derived.Test.YtnlakdpfkgjdaaaDoorShelf
import Derived.Test.YtnlakdpfkgjdaaaDoorPK
import Derived.Lib.AppendIntMem
import Derived.Lib.ItoaLen
namespace Go.Proofs.YtnlakdpfkgjdaaaDoor
open Go.RowKit Go.Cav

/-- strconv's variables are as they are laid -/
structure Wd (w : World) : Prop where
  tab : Lib.TabIs Tryd.prog w "internal/strconv.uint64pow10" .u64 Lib.pow10Tab
  syn : ∃ ev, w.cell? ⟨1, 0, none⟩ = some ev ∧ (ev = .nilIface ∨ ∃ te pe, ev = .iface te pe)
  rng : ∃ ev, w.cell? ⟨2, 0, none⟩ = some ev ∧ (ev = .nilIface ∨ ∃ te pe, ev = .iface te pe)
  most : ∃ m, w.cell? ⟨0, 0, none⟩ = some (.int .i64 m)
theorem Wd.of {w w' : World} (h : Wd w) (hb : Below w.heap.size w w') : Wd w' := by
  refine ⟨(Lib.tabBelow_of_tabIs h.tab) w' hb, ?_, ?_, ?_⟩
  · obtain ⟨ev, h1, h2⟩ := h.syn
    exact ⟨ev, (Stir.of_below hb (fun _ => False)).cell h1 (fun e => e), h2⟩
  · obtain ⟨ev, h1, h2⟩ := h.rng
    exact ⟨ev, (Stir.of_below hb (fun _ => False)).cell h1 (fun e => e), h2⟩
  · obtain ⟨m, h1⟩ := h.most
    exact ⟨m, (Stir.of_below hb (fun _ => False)).cell h1 (fun e => e)⟩

/-- the number that a text is -/
def numP (s : ByteArray) : Option Int :=
  match Lib.atoiAll s.data.toList with
  | .ok v => if Lib.itoa v = s.data.toList then some v else none
  | _ => none

theorem grow_b (w : World) (k : Nat) (os : Array Obj) : Below w.heap.size w (Sort.grow (w.drewN k) os) := by
  have h := (Stir.refl (fun _ => False) w).drewN k
  have h2 : Stir (fun _ => False) (w.drewN k) (Sort.grow (w.drewN k) os) := ⟨rfl, rfl, rfl, by simp [Sort.grow], fun i hi _ => by simp only [Sort.grow]; rw [Array.getElem?_append_left hi]⟩
  exact (h.trans h2 (fun _ _ e => e)).below (Nat.le_refl _) (fun _ e => e.elim)
theorem atoi_ok_below {w w' : World} (h : w' = w ∨ ∃ t, w' = Lib.bytesWorld w 5 t) : Below w.heap.size w w' := by
  rcases h with rfl | ⟨t, rfl⟩
  · exact Below.refl _ _
  · exact Lib.bytesWorld_below _ _ _


/-- what Atoi answers where its error is passed over -/
def atoiV (s : ByteArray) : Int :=
  match Lib.atoiAll s.data.toList with
  | .ok v => v
  | .«syntax» => 0
  | .range => Lib.atoiSat s.data.toList
theorem atoi_any (s : ByteArray) (hs : s.size ≤ 281474976710656) (w : World) (hW : Wd w) :
    Calls Tryd.prog 31 #[.string s] w fun e w' => ∃ ev, e = .returned (.tuple #[.int .i64 (atoiV s), ev]) ∧ Below w.heap.size w w' := by
  obtain ⟨ev0, hv0, he0⟩ := hW.syn
  obtain ⟨ev1, hv1, he1⟩ := hW.rng
  unfold atoiV
  cases hc : Lib.atoiAll s.data.toList with
  | «syntax» =>
    refine (Tryd.strconv_Atoi_syntax s hs hc ev0 w hv0 he0).mono ?_
    rintro e w1 ⟨N, rfl, -, -, hb⟩
    exact ⟨_, rfl, hb⟩
  | range =>
    refine (Tryd.strconv_Atoi_range s hs hc ev1 w hv1 he1).mono ?_
    rintro e w1 ⟨N, rfl, -, -, hb⟩
    exact ⟨_, rfl, hb⟩
  | ok v =>
    refine (Tryd.strconv_Atoi_ok s (by omega) v hc w).mono ?_
    rintro e w1 ⟨rfl, hb⟩
    exact ⟨_, rfl, atoi_ok_below hb⟩
def itoaB (n : Int) : ByteArray := ⟨(Lib.itoa n).toArray⟩
theorem itoa_any (n : Int) (h0 : -9223372036854775808 ≤ n) (h1 : n ≤ 9223372036854775807) (w : World) (hW : Wd w) : Calls Tryd.prog 35 #[.int .i64 n] w fun e w' => e = .returned (.string (itoaB n)) ∧ Below w.heap.size w w' :=
  (Tryd.strconv_Itoa n h0 h1 w hW.tab).mono fun e w' ⟨h1, k, os, h2⟩ => ⟨h1, by subst h2; exact grow_b w k os⟩
theorem itoaB_size (n : Int) (h0 : -9223372036854775808 ≤ n) (h1 : n ≤ 9223372036854775807) : (itoaB n).size ≤ 21 := by
  have e : (itoaB n).size = (Lib.itoa n).length := rfl
  rw [e]; exact Lib.itoa_length_le n h0 h1
theorem atoiV_bounds (s : ByteArray) : -9223372036854775808 ≤ atoiV s ∧ atoiV s ≤ 9223372036854775807 := by
  unfold atoiV
  cases hc : Lib.atoiAll s.data.toList with
  | «syntax» => exact ⟨by simp, by simp⟩
  | range =>
    simp only [Lib.atoiSat]
    split <;> omega
  | ok v => exact Lib.atoiAll_bounds hc
end Go.Proofs.YtnlakdpfkgjdaaaDoor
