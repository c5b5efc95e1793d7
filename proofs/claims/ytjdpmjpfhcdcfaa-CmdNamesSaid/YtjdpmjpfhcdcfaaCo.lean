/- What slices.Collect hands back of an iterator over texts: all of them, in new memory. Conditions: a bound on their number. -/
import Derived.Test.YtjdpmjpfhcdcfaaCl
namespace Go.Proofs.Ytjdpmjpfhcdcfaa
open Go.RowKit Go.Shelf Go.Cav
attribute [local go_sem] Oper.semAt_some

theorem info9' : (Try.prog.info? 9).map (fun i => (i.zero, i.size, i.bytes)) = some (some (.string ⟨#[]⟩), 1, 16) := by kernel_rfl
theorem info_parts {o : Option TypeInfo} {z : Option Value} {a b : Nat} (h : o.map (fun i => (i.zero, i.size, i.bytes)) = some (z, a, b)) : ∃ i, o = some i ∧ i.zero = z ∧ i.size = a ∧ i.bytes = b := by
  cases o with
  | none => cases h
  | some i => simp only [Option.map_some, Option.some.injEq, Prod.mk.injEq] at h; exact ⟨i, rfl, h.1, h.2.1, h.2.2⟩
theorem strings_oneCell (l : List ByteArray) : ∀ u ∈ l.map Value.string, u.oneCell' = true := by
  intro u hu; obtain ⟨x, _, rfl⟩ := List.mem_map.1 hu; rfl

set_option maxRecDepth 100000 in
set_option maxHeartbeats 2000000 in
theorem appendSeq_any (zs : List ByteArray) (hz : zs.length ≤ 1000000000000) (gf : Nat) (lb : Array Value) (w : World) (eg : ∀ args w, (callFunc gf args).run Try.prog w = .ok (.enter gf args) w)
    (hit : ∀ (T : Nat → Prop) (w' : World), Below w.heap.size w w' → (∀ k, T k → w.heap.size ≤ k) → IterC Fence.wide 5 Try.prog gf lb (fun x : ByteArray => #[.string x]) w.heap.size T zs w') :
    Calls Try.prog 33 #[.slice none 0 0, .func (.func gf) #[] lb] w fun e w' => ∃ v, e = .returned v ∧ w'.ownsRow w.heap.size 9 1 v zs.length (zs.map .string) ∧ Below w.heap.size w w' := by
  obtain ⟨i0, hi, hz0, hz1, hz2⟩ := info_parts info9'
  have bS := Boxed.new w 22 (.slice none 0 0)
  refine (callsIn_wide (n := 6)).1 ?_
  have h1 : 1 ≤ 6 := by omega
  refine callsIn_of_wp_marks Try.func33 rfl trivial ?_ rfl
  simp only [Try.ntmps33, List.size_toArray, List.length_cons, List.length_nil, Nat.reduceAdd, Nat.reduceSub, Array.replicate_succ, Array.replicate_zero, List.push_toArray, List.append_toArray, List.nil_append, List.cons_append]
  have hb0 : Below w.heap.size w (w.alloc (.cells #[.slice none 0 0] 22)) := (Below.refl _ w).alloc (Nat.le_refl _) _
  have hz0' : (w.alloc (.cells #[.slice none 0 0] 22)).heap.size = w.heap.size + 1 := by simp
  gi_wp2_with fail
  generalize w.alloc (.cells #[.slice none 0 0] 22) = w2 at bS hb0 hz0' ⊢
  obtain ⟨T, hT⟩ : ∃ T : Nat → Prop, T = (fun k => w.heap.size ≤ k) := ⟨_, rfl⟩
  refine wpIn_rangeFunc_ownG rfl h1 (gf := gf) (lb := lb) rfl trivial eg
    (hit T w2 hb0 (by rw [hT]; exact fun k h => h))
    stirC_t (fun W l o o' a b c _ => stirC_b W l o o' (by omega) b c) (Below.refl _ _) (fun _ => rfl)
    (fun pre W => (∃ v, Boxed W w.heap.size 22 v ∧ W.ownsRow w.heap.size 9 1 v pre.length (pre.map .string) ∧ True) ∧ StirC w.heap.size T w2 W)
    (fun _ _ _ => False)
    (OwnFrom.and (Own.from (holdsRow_own w.heap.size w.heap.size 22 9 1 (fun pre : List ByteArray => pre.length) (fun pre => pre.map .string) (fun _ _ => True)) _) (ownFrom_stirC w2 (by omega)))
    (fun _ => ownFrom_no)
    ⟨⟨_, bS, World.ownsRow_nil _ _ _ _, trivial⟩, StirC.refl _ _ _⟩
    (fun x => { tmps := #[.slice none 0 0, .func (.func gf) #[] lb, .pointer (some ⟨w.heap.size, 0, none⟩), undef, .slice none 0 0, .string x, .func (.func gf) #[] lb, .string x, undef, undef, undef, undef, undef], defers := [] }) ?assign ?body ?done ?stop
  case assign =>
    intro l x W K hK
    gi_wp2
    exact hK
  case body =>
    rintro l pre x W ⟨⟨v, hv, hrow, _⟩, hS⟩ hlen
    have hc := hv.cell
    have hsz : w.heap.size ≤ W.heap.size := by have := hS.size; omega
    have hv0 := hv.alloc (.cells #[.string x] 9)
    have hf0 := hv0.frozen
    have hrow0 : (W.alloc (.cells #[.string x] 9)).ownsRow w.heap.size 9 1 v pre.length (pre.map .string) := hrow.kept (World.grownBy_alloc W _ none) (by cases h : v.ownBlock with | none => exact .inl rfl | some _ => exact .inr (by simp))
    have hS0 : Stir T W (W.alloc (.cells #[.string x] 9)) := (Stir.refl T W).alloc _
    have hK0 : KeepsOthers W (W.alloc (.cells #[.string x] 9)) := KeepsOthers.of_grownBy (World.grownBy_alloc W _ none) (fun j o e _ => by cases e)
    have hx : ∀ j u, ([.string x] : List Value)[j]? = some u → (W.alloc (.cells #[.string x] 9)).cell? ((⟨W.heap.size, 0, none⟩ : Addr).add j) = some u := by
      intro j u hj
      match j, hj with
      | 0, hj => cases hj; show (W.alloc (.cells #[.string x] 9)).cell? ⟨W.heap.size, 0, none⟩ = _; unfold World.cell?; rw [heap_alloc_new]; rfl
      | j + 1, hj => simp at hj
    have hTb : ∀ i, w.heap.size ≤ i → T i := by intro k hk; rw [hT]; exact hk
    gi_wp2_with (gi_at_builtin; go_loud (refine wpListIn_append_own (W.alloc (.cells #[.string x] 9)) rfl (.tmp 8) (.tmp 10) 22 rfl w.heap.size 9 i0 (.string ⟨#[]⟩) 1 16 Try.underlying22 hi hz0 hz1 hz2 rfl (by decide) _ _ _ rfl hrow0 ⟨W.heap.size, 0, none⟩ 1 1 [.string x] rfl rfl hx (by intro u hu; rw [List.mem_singleton.1 hu]; rfl) (by unfold maxLen; omega) (by omega) (by simp; omega) ?_))
    intro v' w3 hown hgrow _
    obtain ⟨b1, b2, b3, b4, b5⟩ := Cav.Boxed.app hv (by decide) hrow hK0 hS0 hv0 hrow0 (hTb _ (Nat.le_refl _)) hTb hown hgrow
    obtain ⟨a3, c3, rfl⟩ := owns_slice hown
    have m1 := b1.cell
    have m2 := b1.frozen
    clear hown hgrow hrow b1 hc hv hv0 hrow0 hS0 hK0 hx hf0
    gi_wp2
    exact ⟨b4.from _, StirC.of_stir b5 (fun _ e => e), ⟨⟨_, b2, by simpa using b3, trivial⟩, hS.trans (StirC.of_stir b5 (fun _ e => e))⟩⟩
  case done =>
    rintro D ys W hD rfl ⟨⟨v, hv, hrow, _⟩, hS⟩ hK
    have hc := hv.cell
    gi_wp2
    refine ⟨by simp, .inl ⟨_, _, rfl, run_takeDeferred hK, ?_⟩⟩
    refine ⟨_, results_tmp rfl _ _ _, v, rfl, ?_, ?_⟩
    · exact hrow.kept (grownBy_putObj' _ D _) (by
        rcases hrow.2 with ⟨rfl, _⟩ | ⟨g, cap, cur, rfl, _, hgb, _⟩
        · exact .inl rfl
        · refine .inr fun e' => ?_
          have e2 : g = D := by simpa [Value.ownBlock] using e'
          subst e2; rw [hK] at hgb; cases hgb)
    · exact (hS.trans (stirC_b (T := T) _ D _ (.deferred none) (by omega) hK rfl)).below hb0 (by omega) (by rw [hT]; exact fun k h => h)
  case stop =>
    rintro D c pre W _ _ h _
    exact h.elim
theorem collect_any (zs : List ByteArray) (hz : zs.length ≤ 1000000000000) (gf : Nat) (lb : Array Value) (w : World) (eg : ∀ args w, (callFunc gf args).run Try.prog w = .ok (.enter gf args) w)
    (hit : ∀ (T : Nat → Prop) (w' : World), Below w.heap.size w w' → (∀ k, T k → w.heap.size ≤ k) → IterC Fence.wide 5 Try.prog gf lb (fun x : ByteArray => #[.string x]) w.heap.size T zs w') :
    Calls Try.prog 26 #[.func (.func gf) #[] lb] w fun e w' => ∃ v, e = .returned v ∧ w'.ownsRow w.heap.size 9 1 v zs.length (zs.map .string) ∧ Below w.heap.size w w' := by
  have ha := appendSeq_any zs hz gf lb w eg hit
  go_enter Try.func26, Try.ntmps26
  go_wp2_with (go_at_call 33; refine ha.mono ?_; rintro e w' ⟨v, rfl, h1, h2⟩)
  go_ret
  exact ⟨_, rfl, h1, h2⟩
end Go.Proofs.Ytjdpmjpfhcdcfaa
