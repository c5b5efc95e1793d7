/- sets.Of in the print's words: what the library's sort and Compact leave. Condition: a bound on the number of texts. -/
import Derived.Test.YtelgfangaigncaaCavSort
import Derived.Test.YtelgfangaigncaaShelf
import Derived.Test.YtelgfangaigncaaGBoth
namespace Go.Proofs.Ytelgfangaigncaa.G
open Go.RowKit Go.Cav Go.Sort Go.Proofs.YtelgfangaigncaaW Go.Proofs.YtelgfangaigncaaW.PrintWords Go.Proofs.YtelgfangaigncaaW.PrintLast Go.Proofs.YtelgfangaigncaaW.PrintMore

def sets_Of.f (l0 : List ByteArray) : Option (List ByteArray) := if l0.length ≤ 1000000000000 then some (ofP l0) else none
theorem R_owns {w : World} {base : Nat} {ok : Nat → Prop} {v : Value} {l : List ByteArray} (h : Kd.R Kd.string 9 w base ok v l) : w.ownsRow base 9 1 v l.length (l.map .string) := by
  obtain ⟨_, inner, ho, hl, hr⟩ := h
  have e : inner = l.map .string := by
    refine List.ext_getElem? fun j => ?_
    simp only [Kd.string, Kd.scalar, Nat.mul_one] at hl hr
    rcases Nat.lt_or_ge j l.length with hj | hj
    · have := hr j l[j] (List.getElem?_eq_getElem hj)
      have h2 : (inner.drop j).take 1 = [Value.string l[j]] := this
      rw [List.getElem?_map, List.getElem?_eq_getElem hj]
      have h3 := congrArg (fun x => x[0]?) h2
      simpa [List.getElem?_take, List.getElem?_drop] using h3
    · rw [List.getElem?_eq_none (by omega), List.getElem?_eq_none (by simpa using hj)]
  rw [e] at ho
  exact ho
theorem cells_C {w : World} {g : Nat} {L : List (List UInt8)} (hl : L.length ≤ 9223372036854775807) (h : Go.Sort.Holds encStr w g 0 L.toArray) : Kd.C Kd.string w (some ⟨g, 0, none⟩) (L.map ofL).length (L.map ofL) := by
  refine ⟨rfl, by simpa using hl, fun _ => ⟨_, rfl, fun j p hj => ?_⟩⟩
  rw [List.getElem?_map] at hj
  obtain ⟨x, hx, rfl⟩ := Option.map_eq_some_iff.1 hj
  obtain ⟨hj2, rfl⟩ := List.getElem?_eq_some_iff.1 hx
  refine ⟨[.string (ofL L[j])], rfl, rfl, fun i u hu => ?_⟩
  match i, hu with
  | 0, hu =>
    cases hu
    have := holds_cells h j hj2
    have ha : (⟨g, 0, none⟩ : Addr).add (j * (Kd.string).sz + 0) = ⟨g, j, none⟩ := by simp only [Kd.string, Kd.scalar]; unfold Addr.add; split <;> simp_all
    rw [ha]; exact this
  | i + 1, hu => simp at hu

set_option maxRecDepth 100000 in
set_option maxHeartbeats 2000000 in
theorem sets_Of.calls (A0 : Option Addr) (c0 : Nat) (l0 : List ByteArray) (r : List ByteArray) (w : World) (hr0 : Kd.C Kd.string w A0 l0.length l0) (hc0 : l0.length ≤ c0) (h : sets_Of.f l0 = some r) :
    Calls Try.prog 14 #[.slice A0 l0.length c0] w fun e w' => ∃ v0_ : Value, e = .returned (v0_) ∧ Kd.V Kd.string 9 w' w.heap.size (fun k_ => (w.heap.size ≤ k_)) v0_ r ∧ Below w.heap.size w w' := by
  unfold sets_Of.f at h
  split at h
  case isFalse => cases h
  case isTrue hb =>
    obtain rfl := Option.some.inj h
    have hcl := slices_Clone_string.calls A0 c0 l0 l0 w hr0 hc0 (by unfold slices_Clone_string.f; rw [if_pos]; omega)
    clear hr0 h
    go_enter Try.func14, Try.ntmps14
    go_wp2_with (go_at_call 23; refine hcl.mono ?_; rintro e w1 ⟨v1, rfl, hR, hbl⟩)
    have ho := R_owns hR
    clear hR hcl
    rcases Nat.eq_zero_or_pos l0.length with h0 | h0
    · obtain rfl : l0 = [] := List.eq_nil_of_length_eq_zero h0
      obtain ⟨A, c, rfl⟩ := owns_slice ho
      simp only [List.length_nil]
      have hs := Try.slices_Sort_string_none A c w1
      have hcm := Try.slices_Compact_string_empty A c w1
      have hcl := slices_Clone_string.calls A c [] [] w1 ⟨rfl, by simp, fun h => by simp at h⟩ (by simp) (by unfold slices_Clone_string.f; rw [if_pos]; simp)
      simp only [List.length_nil] at hcl
      clear ho h0
      have HB := Lib.hid hbl
      have hsz := hbl.size
      clear hbl
      go_wp2_with fail
      refine hs.mono ?_
      rintro e w2 ⟨rfl, rfl⟩
      go_wp2_with fail
      refine hcm.mono ?_
      rintro e w3 ⟨rfl, rfl⟩
      go_wp2_with fail
      refine hcl.mono ?_
      rintro e w4 ⟨v4, rfl, hR, hbl4⟩
      have he : ofP [] = [] := List.eq_nil_of_length_eq_zero (by have := ofP_len []; simpa using this)
      have HE := Lib.hid he
      clear he
      go_wp2
      go_ret
      rw [HE.out]
      exact ⟨_, rfl, Kd.V_mono (Kd.R_V (Kd.R_bound hR)) (fun k hk => Nat.le_trans hsz hk.2.1), HB.out.trans (hbl4.mono hsz)⟩
    · rcases owns_shape ho with ⟨_, e0⟩ | ⟨g, cap, rfl⟩
      · omega
      have hH := holds_owns ho
      have hgb : w.heap.size ≤ g := own_base ho g rfl
      have hgl : g < w1.heap.size := own_lt ho g rfl
      have hcap : l0.length ≤ cap := by
        rcases ho.2 with ⟨e1, _⟩ | ⟨g', cap', cur, e1, _, _, hn, _⟩
        · cases e1
        · cases e1; exact hn
      have hlm : (l0.map ByteArray.toList).length = l0.length := List.length_map ..
      have hs := Try.slices_Sort_string g 0 cap (l0.map ByteArray.toList) w1 hH hgl (by rw [hlm]; omega)
      rw [hlm] at hs
      obtain ⟨S, hS⟩ : ∃ S, S = sortL l0 := ⟨_, rfl⟩
      have hSl : S.length = l0.length := by rw [hS]; exact sortL_length l0
      have hs' : Calls Try.prog 26 #[.slice (some ⟨g, 0, none⟩) l0.length cap] w1 fun e w' => e = .returned (.tuple #[]) ∧ Go.Sort.Holds encStr w' g 0 S.toArray ∧ Stir (fun k => k = g) w1 w' := by
        refine hs.mono ?_
        rintro e w' ⟨rfl, n, os, rfl⟩
        refine ⟨rfl, ?_, stir_grow (stir_putRow _ _ _ _ _ _) _⟩
        have h2 := holds_putRow encStr (Sort.ahead w1 n) g 0 _ S.toArray (holds_ahead _ _ n _ _ _ hH) (by simp [hSl])
        rw [hS] at h2 ⊢
        exact holds_grow _ _ _ _ _ _ (by simpa using hgl) h2
      have hof : ofP l0 = (Lib.compact S).map ofL := by rw [hS]; rfl
      have hcl0 : (Lib.compact S).length ≤ l0.length := by rw [← hSl]; exact compact_len S
      have HOf := Lib.hid hof
      have HB := Lib.hid hbl
      have hsz := hbl.size
      clear hs ho hH hS hof hbl hlm
      go_wp2_with fail
      refine hs'.mono ?_
      rintro e w2 ⟨rfl, hH2, hst2⟩
      clear hs'
      have hsz2 := hst2.size
      have hcm : Calls Try.prog 27 #[.slice (some ⟨g, 0, none⟩) l0.length cap] w2 fun e w' => e = .returned (.slice (some ⟨g, 0, none⟩) (Lib.compact S).length cap) ∧ Go.Sort.Holds encStr w' g 0 (Lib.compact S).toArray ∧ Stir (fun k => k = g) w2 w' := by
        have h2 := Try.slices_Compact_string g 0 cap S w2 hH2 (by rw [hSl]; omega) (by rw [hSl]; exact hcap)
        rw [hSl] at h2
        refine h2.mono ?_
        rintro e w' ⟨rfl, q, rfl⟩
        refine ⟨rfl, ?_, stir_putRow _ _ _ _ _ _⟩
        refine holds_take (M := List.replicate (l0.length - (Lib.compact S).length) []) ?_
        exact holds_putRow encStr (Sort.ahead w2 q) g 0 S.toArray _ (holds_ahead _ _ q _ _ _ hH2) (by simp; omega)
      have Hst2 := Lib.hid hst2
      clear hH2 hst2
      go_wp2_with fail
      refine hcm.mono ?_
      rintro e w3 ⟨rfl, hH3, hst3⟩
      clear hcm
      have hC3 := cells_C (by omega) hH3
      have hcl := slices_Clone_string.calls (some ⟨g, 0, none⟩) cap _ _ w3 hC3 (by simp; omega) (by unfold slices_Clone_string.f; rw [if_pos]; simp; omega)
      rw [List.length_map] at hcl
      have hsz3 := hst3.size
      have Hst3 := Lib.hid hst3
      clear hH3 hC3 hst3
      go_wp2_with fail
      refine hcl.mono ?_
      rintro e w4 ⟨v4, rfl, hR, hbl4⟩
      have hB4 : Below w.heap.size w w4 := by
        have h1 := Stir.of_below HB.out (fun k => w.heap.size ≤ k)
        have h2 := (h1.trans Hst2.out (fun i _ e => by subst e; exact hgb)).trans Hst3.out (fun i _ e => by subst e; exact hgb)
        exact (h2.below (Nat.le_refl _) (fun k h => h)).trans (hbl4.mono (by omega))
      have HB4 := Lib.hid hB4
      clear hB4 hcl hbl4
      go_wp2
      go_ret
      rw [HOf.out]
      exact ⟨_, rfl, Kd.V_mono (Kd.R_V (Kd.R_bound hR)) (fun k hk => by have := hk.2.1; omega), HB4.out⟩
end Go.Proofs.Ytelgfangaigncaa.G
