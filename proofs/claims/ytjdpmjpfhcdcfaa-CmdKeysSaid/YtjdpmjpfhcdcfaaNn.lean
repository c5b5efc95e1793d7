/- What Names hands back: the names of all commands, as the library's sort leaves them. No conditions. -/
import Derived.Test.YtjdpmjpfhcdcfaaNm
import Derived.Test.YtjdpmjpfhcdcfaaCavSort
import Derived.Test.YtjdpmjpfhcdcfaaShelf
namespace Go.Proofs.Ytjdpmjpfhcdcfaa
open Go.RowKit Go.Shelf Go.Cav
attribute [local go_sem] Oper.semAt_some

/-- the names, as the commands stand -/
def nmL (l : List SpecV) : List ByteArray := l.map (·.nm)
theorem nmL_snoc (l : List SpecV) (x : SpecV) : nmL (l ++ [x]) = nmL l ++ [x.nm] := by simp [nmL]
theorem nmL_length (l : List SpecV) : (nmL l).length = l.length := by simp [nmL]

set_option maxRecDepth 100000 in
set_option maxHeartbeats 2000000 in
theorem names_any (w : World) : Calls Try.prog 17 #[] w fun e w' => ∃ g cap, e = .returned (.slice (some ⟨g, 0, none⟩) 54 cap) ∧ 54 ≤ cap ∧ w.heap.size ≤ g ∧ Go.Sort.Holds encStr w' g 0 (sortL (nmL specL)).toArray ∧ Below w.heap.size w w' := by
  obtain ⟨i0, hi, hz0, hz1, hz2⟩ := info_parts info9'
  have bS := Boxed.new w 22 (.slice none 0 0)
  refine (callsIn_wide (n := 6)).1 ?_
  have h1 : 1 ≤ 6 := by omega
  refine callsIn_of_wp_marks Try.func17 rfl trivial ?_ rfl
  simp only [Try.ntmps17, List.size_toArray, List.length_nil, Nat.reduceSub, Array.replicate_succ, Array.replicate_zero, List.push_toArray, List.append_toArray, List.nil_append, List.cons_append]
  have hb0 : Below w.heap.size w (w.alloc (.cells #[.slice none 0 0] 22)) := (Below.refl _ w).alloc (Nat.le_refl _) _
  have hz0' : (w.alloc (.cells #[.slice none 0 0] 22)).heap.size = w.heap.size + 1 := by simp
  gi_wp2_with fail
  refine ⟨trivial, (callsIn_wide.2 (all_any _)).mono ?_⟩
  rintro e w2 ⟨rfl, rfl⟩
  gi_wp2_with fail
  generalize w.alloc (.cells #[.slice none 0 0] 22) = w2 at bS hb0 hz0' ⊢
  rename_i Q0 K0 hK0
  have HK0 := Lib.hid hK0
  clear hK0
  obtain ⟨T, hT⟩ : ∃ T : Nat → Prop, T = (fun k => k = w.heap.size) := ⟨_, rfl⟩
  refine wpIn_rangeFunc_ownH rfl h1 (gf := 29) (lb := #[]) rfl trivial (enters_of Try.func29 (by kernel_rfl) rfl)
    (all_stopsT 5 (by omega) w.heap.size T w2 (by rw [hT]; intro k hk; omega))
    stirT_t (fun W l o o' a b c _ => stirT_b W l o o' (by omega) b c) (Below.refl _ _) (fun _ => rfl)
    (fun pre W => (∃ v, Boxed W w.heap.size 22 v ∧ W.ownsRow w.heap.size 9 1 v (nmL pre).length ((nmL pre).map .string) ∧ True) ∧ StirT w.heap.size 9 T w2 W)
    (fun _ _ _ => False)
    (OwnFrom.and (Own.from (holdsRow_own w.heap.size w.heap.size 22 9 1 (fun pre : List SpecV => (nmL pre).length) (fun pre => (nmL pre).map .string) (fun _ _ => True)) _) (ownFrom_stirT w2 (by omega)))
    (fun _ => ownFrom_no)
    ⟨⟨_, bS, World.ownsRow_nil _ _ _ _, trivial⟩, StirT.refl _ _ _ _⟩
    (fun x a' W => ∃ b, w2.heap.size ≤ b ∧ RowAt W b x ∧ a' = { tmps := #[.slice none 0 0, .pointer (some ⟨w.heap.size, 0, none⟩), .pointer (some ⟨b, 0, none⟩), .func (.func 29) #[] #[], .agg (encS x).toArray, undef, undef, undef, undef, undef, undef, undef, undef], defers := [] })
    (fun x a' s W W' row h hg hr => by
      obtain ⟨b, h0, h1, h2⟩ := h
      exact ⟨b, h0, (Own.from (rowAt_own (β := Unit) b (fun _ => x)) _) () W W' row h1 hg hr, h2⟩) ?assign ?body ?done ?stop
  case assign =>
    rintro l pre ⟨s0, s1, s2, s3, s4, s5, s6⟩ W K ⟨⟨v, hv, hrow, _⟩, hS⟩ hK
    have hsz : w2.heap.size ≤ W.heap.size := hS.size
    have hg : W.grownBy (W.alloc (.cells (encS ⟨s0, s1, s2, s3, s4, s5, s6⟩).toArray 26)) none := World.grownBy_alloc W _ none
    have hk := hK { tmps := #[.slice none 0 0, .pointer (some ⟨w.heap.size, 0, none⟩), .pointer (some ⟨W.heap.size, 0, none⟩), .func (.func 29) #[] #[], .agg (encS ⟨s0, s1, s2, s3, s4, s5, s6⟩).toArray, undef, undef, undef, undef, undef, undef, undef, undef], defers := [] } (W.alloc (.cells (encS ⟨s0, s1, s2, s3, s4, s5, s6⟩).toArray 26))
      (KeepsFrom.of_grownBy hg (fun j e => by cases e)) ((StirT.refl _ _ _ _).alloc _)
      ⟨⟨v, hv.alloc _, hrow.alloc _, trivial⟩, hS.alloc _⟩ ⟨_, hsz, heap_alloc_new W _, rfl⟩
    clear hK hg hv hrow hS
    simp only [encS] at hk ⊢
    gi_wp2
    exact hk
  case body =>
    rintro l pre x a' W hl _ ⟨⟨v, hv, hrow, _⟩, hS⟩ ⟨b, hbz, hb, rfl⟩ hlen
    have e1 : W.cell? ⟨b, 0, none⟩ = some (.string x.nm) := by unfold World.cell?; rw [show W.heap[b]? = _ from hb]; rfl
    have hc := hv.cell
    have hsz : w2.heap.size ≤ W.heap.size := hS.size
    have hpl : (nmL pre).length ≤ 54 := by rw [nmL_length]; rw [specL_length] at hlen; omega
    have hv0 := hv.alloc (.cells #[.string x.nm] 9)
    have hf0 := hv0.frozen
    have hrow0 : (W.alloc (.cells #[.string x.nm] 9)).ownsRow w.heap.size 9 1 v (nmL pre).length ((nmL pre).map .string) := hrow.kept (World.grownBy_alloc W _ none) (by cases h : v.ownBlock with | none => exact .inl rfl | some _ => exact .inr (by simp))
    have hS0 : Stir (fun k => w.heap.size ≤ k) W (W.alloc (.cells #[.string x.nm] 9)) := (Stir.refl _ W).alloc _
    have hK0 : KeepsOthers W (W.alloc (.cells #[.string x.nm] 9)) := KeepsOthers.of_grownBy (World.grownBy_alloc W _ none) (fun j o e _ => by cases e)
    have hx : ∀ j u, ([.string x.nm] : List Value)[j]? = some u → (W.alloc (.cells #[.string x.nm] 9)).cell? ((⟨W.heap.size, 0, none⟩ : Addr).add j) = some u := by
      intro j u hj
      match j, hj with
      | 0, hj => cases hj; show (W.alloc (.cells #[.string x.nm] 9)).cell? ⟨W.heap.size, 0, none⟩ = _; unfold World.cell?; rw [heap_alloc_new]; rfl
      | j + 1, hj => simp at hj
    have hST0 : StirT w.heap.size 9 T W (W.alloc (.cells #[.string x.nm] 9)) := (StirT.refl _ _ _ _).alloc _
    have HST := Lib.hid hST0
    clear hST0 hb
    gi_wp2_with (gi_at_builtin; go_loud (refine wpListIn_append_own (W.alloc (.cells #[.string x.nm] 9)) rfl (.tmp 5) (.tmp 8) 22 rfl w.heap.size 9 i0 (.string ⟨#[]⟩) 1 16 Try.underlying22 hi hz0 hz1 hz2 rfl (by decide) _ _ _ rfl hrow0 ⟨W.heap.size, 0, none⟩ 1 1 [.string x.nm] rfl rfl hx (by intro u hu; rw [List.mem_singleton.1 hu]; rfl) (by unfold maxLen; omega) (by omega) (by simp; omega) ?_))
    intro v' w3 hown hgrow _
    obtain ⟨b1, b2, b3, b4, b5⟩ := Cav.Boxed.app hv (by decide) hrow hK0 hS0 hv0 hrow0 (Nat.le_refl _) (fun _ h => h) hown hgrow
    have hst3 : StirT w.heap.size 9 T W (w3.setCell ⟨w.heap.size, 0, none⟩ v') :=
      (HST.out.trans (StirT.grow_row hrow0 (Nat.le_refl _) hgrow)).trans (StirT.of_stir ((Stir.refl (fun k => k = w.heap.size) w3).setCell (p := ⟨w.heap.size, 0, none⟩) (fun _ => rfl) v') (fun i e => by rw [hT]; exact e))
    obtain ⟨a3, c3, rfl⟩ := owns_slice hown
    have m1 := b1.cell
    have m2 := b1.frozen
    have Hst3 := Lib.hid hst3
    clear hown hgrow hrow b1 hc hv hv0 hrow0 hS0 hK0 hx hf0 hst3 HST
    gi_wp2
    refine ⟨b4.from _, Hst3.out, ⟨⟨_, b2, ?_, trivial⟩, hS.trans Hst3.out⟩⟩
    rw [nmL_snoc]
    simpa using b3
  case done =>
    rintro D ys W hD rfl ⟨⟨v, hv, hrow, _⟩, hS⟩ hK
    refine HK0.out _ _ ?_
    have hc := hv.cell
    rcases owns_shape hrow with ⟨_, e0⟩ | ⟨g, cap, rfl⟩
    · rw [nmL_length, specL_length] at e0; omega
    have hH := holds_owns hrow
    have hgb : w.heap.size ≤ g := (hrow.lt g rfl).1
    have hgl : g < W.heap.size := (hrow.lt g rfl).2
    have hcap : 54 ≤ cap := by
      rcases hrow.2 with ⟨e1, _⟩ | ⟨g', cap', cur, e1, _, _, hn, _⟩
      · cases e1
      · cases e1; rw [nmL_length, specL_length] at hn; exact hn
    have hne : g ≠ D := by
      rintro rfl
      rcases hrow.2 with ⟨e1, _⟩ | ⟨g', cap', cur, e1, _, hgg, _⟩
      · cases e1
      · cases e1; rw [hK] at hgg; cases hgg
    have hneS : g ≠ w.heap.size := by
      have := hv.not_row (by decide) hrow
      intro e; rw [← e] at this; simp [Value.ownBlock] at this
    have hl54 : (nmL specL).length = 54 := by rw [nmL_length, specL_length]
    have hlm : ((nmL specL).map ByteArray.toList).length = 54 := by rw [List.length_map, hl54]
    have hs := Try.slices_Sort_string g 0 cap ((nmL specL).map ByteArray.toList) W hH hgl (by rw [hlm]; omega)
    rw [hlm] at hs
    have hs' : Calls Try.prog 27 #[.slice (some ⟨g, 0, none⟩) 54 cap] W fun e w' => e = .returned (.tuple #[]) ∧ Go.Sort.Holds encStr w' g 0 (sortL (nmL specL)).toArray ∧ Stir (fun k => k = g) W w' := by
      refine hs.mono ?_
      rintro e w' ⟨rfl, n, os, rfl⟩
      refine ⟨rfl, ?_, stir_grow (stir_putRow _ _ _ _ _ _) _⟩
      exact Go.Sort.holds_grow _ _ _ _ _ _ (by simpa using hgl) (Go.Sort.holds_putRow encStr (Go.Sort.ahead W n) g 0 _ (sortL (nmL specL)).toArray (Go.Sort.holds_ahead _ _ n _ _ _ hH) (by
        have := sortL_length (nmL specL)
        simp only [List.size_toArray, List.length_map]; omega))
    have hB : Below w.heap.size w W := hS.below hb0 (by omega) (by rw [hT]; intro k h; omega)
    have HB := Lib.hid hB
    have HV := Lib.hid hv
    rw [hl54] at hc
    clear hs hH hlm hl54 hrow hB hv
    gi_wp2_with fail
    refine ⟨trivial, (callsIn_wide.2 hs').mono ?_⟩
    rintro e w3 ⟨rfl, hH3, hst3⟩
    clear hs'
    have hv3 : Boxed w3 w.heap.size 22 _ := (hst3.block _ HV.out.lt (by omega)).trans HV.out
    have hK3 : w3.heap[D]? = some (.deferred (some [])) := (hst3.block D (lt_of_heap hK) (by omega)).trans hK
    have hc3 := hv3.cell
    rw [nmL_length, specL_length] at hc3
    have HH3 := Lib.hid hH3
    have Hst3 := Lib.hid hst3
    clear hH3 hst3 hv3 hc hK
    gi_wp2
    refine ⟨by simp, .inl ⟨_, _, rfl, run_takeDeferred hK3, ?_⟩⟩
    refine ⟨_, results_tmp rfl _ _ _, g, cap, rfl, hcap, hgb, ?_, ?_⟩
    · intro j hj
      have hb : (w3.putObj D (.deferred none)).heap[g]? = w3.heap[g]? := (grownBy_putObj' w3 D _).block g (by have := Hst3.out.size; omega) (by simp; exact fun e => hne e)
      obtain ⟨q1, q2⟩ := HH3.out j hj
      exact ⟨(World.cell?_of_block hb).trans q1, (World.frozen?_of_block hb).trans q2⟩
    · have s1 := (Stir.of_below HB.out (fun k => w.heap.size ≤ k)).trans Hst3.out (fun i _ e => by subst e; exact hgb)
      exact (s1.grown (grownBy_putObj' w3 D _) (fun k e _ => by cases e; omega)).below (Nat.le_refl _) (fun k h => h)
  case stop =>
    rintro D c pre W _ _ h _
    exact h.elim
end Go.Proofs.Ytjdpmjpfhcdcfaa
