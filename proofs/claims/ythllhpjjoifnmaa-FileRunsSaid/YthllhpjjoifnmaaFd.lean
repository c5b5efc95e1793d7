/- What Bytes of a file hands back: all its bytes in new memory. Conditions: a bound on their number. -/
import Derived.Test.YthllhpjjoifnmaaCavVal
import Derived.Test.YthllhpjjoifnmaaFc
namespace Go.Proofs.Ythllhpjjoifnmaa
open Go.RowKit Go.Shelf Go.Cav

attribute [local go_sem] Oper.semAt_some

theorem pieces_world (w : World) (u v : Value) : ∃ bx sv, bx = w.heap.size + 1 ∧ sv = Value.slice (some ⟨w.heap.size, 0, none⟩) 2 2 ∧ (((w.alloc (.cells #[u, v] 22)).alloc (.cells #[.slice (some ⟨w.heap.size, 0, none⟩) 2 2] 60)).drew).cell? ⟨bx, 0, none⟩ = some sv ∧
    bx < (((w.alloc (.cells #[u, v] 22)).alloc (.cells #[.slice (some ⟨w.heap.size, 0, none⟩) 2 2] 60)).drew).heap.size ∧ (∀ k, sv.ownBlock = some k → w.heap.size ≤ k ∧ k < (((w.alloc (.cells #[u, v] 22)).alloc (.cells #[.slice (some ⟨w.heap.size, 0, none⟩) 2 2] 60)).drew).heap.size) ∧
    Reads (((w.alloc (.cells #[u, v] 22)).alloc (.cells #[.slice (some ⟨w.heap.size, 0, none⟩) 2 2] 60)).drew) 1 sv 2 [u, v] ∧ Stir (fun _ => False) w (((w.alloc (.cells #[u, v] 22)).alloc (.cells #[.slice (some ⟨w.heap.size, 0, none⟩) 2 2] 60)).drew) := by
  have e1 := heap_alloc_new (w.alloc (.cells #[u, v] 22)) (.cells #[.slice (some ⟨w.heap.size, 0, none⟩) 2 2] 60)
  rw [World.size_alloc] at e1
  have e2 : ((w.alloc (.cells #[u, v] 22)).alloc (.cells #[.slice (some ⟨w.heap.size, 0, none⟩) 2 2] 60)).heap[w.heap.size]? = some (.cells #[u, v] 22) := (heap_alloc_old _ _ _ (by simp)).trans (heap_alloc_new w _)
  refine ⟨_, _, rfl, rfl, ?_, ?_, ?_, ⟨rfl, .inr ⟨_, _, rfl, ?_⟩⟩, (((Stir.refl _ w).alloc _).alloc _).drew⟩
  · exact cell_of_one e1
  · show _ < ((w.alloc (.cells #[u, v] 22)).alloc (.cells #[.slice (some ⟨w.heap.size, 0, none⟩) 2 2] 60)).heap.size; simp
  · intro k e; cases e; refine ⟨Nat.le_refl _, ?_⟩; show _ < ((w.alloc (.cells #[u, v] 22)).alloc (.cells #[.slice (some ⟨w.heap.size, 0, none⟩) 2 2] 60)).heap.size; simp; omega
  · intro j x hx
    simp only [World.cell?_drew]
    match j, hx with
    | 0, hx => simp at hx; subst hx; simp [World.cell?, Addr.add, e2]
    | 1, hx => simp at hx; subst hx; simp [World.cell?, Addr.add, e2]

set_option maxHeartbeats 800000 in
theorem pieces_any (g : Nat) (w : World) (a b : Option Addr) (n m c d : Nat) (h0 : w.cell? ⟨g, 0, none⟩ = some (.slice a n c)) (h1 : w.cell? ⟨g, 1, none⟩ = some (.slice b m d)) :
    Calls Try.prog 29 #[.pointer (some ⟨g, 0, none⟩)] w fun e w' => ∃ bx v, e = .returned (.func (.func 33) #[] #[.pointer (some ⟨bx, 0, none⟩)]) ∧ w'.cell? ⟨bx, 0, none⟩ = some v ∧ bx < w'.heap.size ∧ (∀ k, v.ownBlock = some k → w.heap.size ≤ k ∧ k < w'.heap.size) ∧
      Reads w' 1 v 2 [.slice a n c, .slice b m d] ∧ Stir (fun _ => False) w w' := by
  go_enter Try.func29, Try.ntmps29
  go_wp2
  go_region_with (go_at_call 32; refine (values_any _ _ _ _).mono ?_; rintro e w' ⟨rfl, rfl⟩)
  all_goals go_wp2
  all_goals go_ret
  all_goals (obtain ⟨bx, sv, rfl, rfl, q1, q2, q3, q4, q5⟩ := pieces_world w (.slice a n c) (.slice b m d); exact ⟨_, _, rfl, q1, q2, q3, q4, q5⟩)

set_option maxHeartbeats 400000 in
theorem bytes_nil (w : World) : Calls Try.prog 15 #[.pointer none] w fun e w' => e = .returned (.tuple #[.slice none 0 0, .int .i64 2]) ∧ w = w' := by
  go_enter Try.func15, Try.ntmps15
  go_wp2_with (go_at_call 28; refine (asked_nil _).mono ?_; rintro e w' ⟨rfl, rfl⟩)
  go_ret2
  exact ⟨rfl, rfl⟩

set_option maxHeartbeats 400000 in
theorem bytes_down (g : Nat) (w : World) (h6 : w.cell? ⟨g, 6, none⟩ = some (.bool true)) : Calls Try.prog 15 #[.pointer (some ⟨g, 0, none⟩)] w fun e w' => e = .returned (.tuple #[.slice none 0 0, .int .i64 8]) ∧ w = w' := by
  go_enter Try.func15, Try.ntmps15
  go_wp2_with (go_at_call 28; refine (asked_down _ _ h6).mono ?_; rintro e w' ⟨rfl, rfl⟩)
  go_ret2
  exact ⟨rfl, rfl⟩

/-- a piece: its bytes, and where they lie -/
def Piece (w : World) (T : Nat → Prop) (M : Nat) : Type := { x : List UInt8 × Value // Reads w 1 x.2 x.1.length (x.1.map B8) ∧ (∀ k, x.2.ownBlock = some k → ¬ T k) ∧ x.1.length ≤ M }
def flat {w : World} {T : Nat → Prop} {M : Nat} (l : List (Piece w T M)) : List UInt8 := l.flatMap (fun x => x.1.1)
theorem flat_le {w : World} {T : Nat → Prop} {M : Nat} (l : List (Piece w T M)) : (flat l).length ≤ l.length * M := by
  induction l with
  | nil => simp [flat]
  | cons x l ih =>
    have e : flat (x :: l) = x.1.1 ++ flat l := by simp [flat]
    have := x.2.2.2
    rw [e, List.length_append, List.length_cons, Nat.add_mul, Nat.one_mul]; omega

set_option maxRecDepth 100000 in
set_option maxHeartbeats 2000000 in
theorem bytes_up (B g : Nat) (S : Nat → Prop) (sv lv : Value) (s : St) (w : World) (hF : FileAt B w g S sv lv s) (hd : s.down = false) (hz : s.safe.length + s.loose.length ≤ 10000000000000) :
    Calls Try.prog 15 #[.pointer (some ⟨g, 0, none⟩)] w fun e w' => ∃ v, e = .returned (.tuple #[v, .int .i64 0]) ∧ Reads w' 1 v (s.safe ++ s.loose).length ((s.safe ++ s.loose).map B8) ∧ Stir (fun _ => False) w w' := by
  obtain ⟨i0, hi, hz0, hz1, hz2⟩ := info_parts info5
  have hF0 := hF.touch ((Stir.refl (fun _ => False) w).alloc (.cells #[.slice none 0 0] 22)) (fun _ _ e => e)
  obtain ⟨a1, c1, rfl⟩ := owns_slice hF.own1
  obtain ⟨a2, c2, rfl⟩ := owns_slice hF.own2
  obtain ⟨_, _, _, _, _, _, k6⟩ := hF.cells
  obtain ⟨k0, k1, _⟩ := hF0.cells
  rw [hd] at k6
  have bS := Boxed.new w 22 (.slice none 0 0)
  refine (callsIn_wide (n := 6)).1 ?_
  have h1 : 1 ≤ 6 := by omega
  refine callsIn_of_wp_marks Try.func15 rfl trivial ?_ rfl
  simp only [Try.ntmps15, List.size_toArray, List.length_cons, List.length_nil, Nat.reduceAdd, Nat.reduceSub, Array.replicate_succ, Array.replicate_zero, List.push_toArray, List.append_toArray, List.nil_append, List.cons_append]
  gi_wp2_with (refine ⟨trivial, ?_⟩; gi_at_call 28; refine (callsIn_wide.2 (asked_up _ _ k6)).mono ?_; rintro e w' ⟨rfl, rfl⟩)
  refine ⟨trivial, (callsIn_wide.2 (pieces_any g _ _ _ _ _ _ _ k0 k1)).mono ?_⟩
  rintro e w2 ⟨bx, v, rfl, q1, q2, q3, q4, q5⟩
  gi_wp2_with fail
  have hB : w.heap.size < w2.heap.size := Nat.lt_of_lt_of_le bS.lt q5.size
  have hF2 := hF0.touch q5 (fun _ _ e => e)
  obtain ⟨T, hT⟩ : ∃ T : Nat → Prop, T = (fun k => k = w.heap.size ∨ w2.heap.size ≤ k) := ⟨_, rfl⟩
  obtain ⟨p1, hp1⟩ : ∃ p : Piece w2 T 10000000000000, p.1 = (s.safe, .slice a1 s.safe.length c1) := ⟨⟨(s.safe, .slice a1 s.safe.length c1), Reads.of_owns hF2.own1, fun k e => by have := (hF.from_ k (hF.in1 k e)).2; rw [hT]; rintro (h | h) <;> omega, by show s.safe.length ≤ _; omega⟩, rfl⟩
  obtain ⟨p2, hp2⟩ : ∃ p : Piece w2 T 10000000000000, p.1 = (s.loose, .slice a2 s.loose.length c2) := ⟨⟨(s.loose, .slice a2 s.loose.length c2), Reads.of_owns hF2.own2, fun k e => by have := (hF.from_ k (hF.in2 k e)).2; rw [hT]; rintro (h | h) <;> omega, by show s.loose.length ≤ _; omega⟩, rfl⟩
  have hzs : Reads w2 1 v [p1, p2].length ([p1, p2].map (fun x => x.1.2)) := by simp only [List.map_cons, List.map_nil, hp1, hp2]; exact q4
  have HFL : Hid (flat [p1, p2] = s.safe ++ s.loose) := by show flat [p1, p2] = _; simp [flat, hp1, hp2]
  have q0 : Stir (fun _ => False) w w2 := ((Stir.refl _ w).alloc _).trans q5 (fun _ _ e => e)
  clear hp1 hp2
  clear hF hF0 hF2 k0 k1 k6 q4
  refine wpIn_rangeFunc_ownG rfl h1 (gf := 33) (lb := #[.pointer (some ⟨bx, 0, none⟩)]) rfl trivial (enters_of Try.func33 (by kernel_rfl) rfl)
    (values_stops (fun x : Piece w2 T 10000000000000 => x.1.2) Fence.wide 5 trivial rfl (by omega) bx T v [p1, p2] (by simp) w2 q2 q1 hzs (fun k e => by rw [hT]; have := q3 k e; simp at this; rintro (h | h) <;> omega))
    stirK_t (stirK_b (by intro k hk; rw [hT]; exact .inr hk)) (Below.refl _ _) (fun _ => rfl)
    (fun pre W => (∃ v, Boxed W w.heap.size 22 v ∧ W.ownsRow w2.heap.size 5 1 v (flat pre).length ((flat pre).map B8) ∧ True) ∧ Stir T w2 W)
    (fun _ _ _ => False)
    (OwnFrom.and (Own.from (holdsRow_own w2.heap.size w.heap.size 22 5 1 (fun pre => (flat pre).length) (fun pre => (flat pre).map B8) (fun _ _ => True)) _) (ownFrom_stir w2 (by intro k hk; rw [hT]; exact .inr hk)))
    (fun _ => ownFrom_no)
    ⟨⟨_, bS.kept q5.grownBy (by simp), World.ownsRow_nil _ _ _ _, trivial⟩, Stir.refl _ _⟩
    (fun x => { tmps := #[.pointer (some ⟨g, 0, none⟩), undef, .slice none 0 0, .int .i64 0, .int .i64 0, .pointer (some ⟨w.heap.size, 0, none⟩), x.1.2, .pointer (some ⟨g, 0, none⟩), .int .i64 0, .int .i64 0, .bool false, undef, .pointer (some ⟨g, 0, none⟩), .func (.func 33) #[] #[.pointer (some ⟨bx, 0, none⟩)], x.1.2, undef, undef, undef, undef], defers := [] }) ?assign ?body ?done ?stop
  case assign =>
    intro l x W K hK
    gi_wp2
    exact hK
  case body =>
    rintro l pre x W ⟨⟨v, hv, hrow, _⟩, hS⟩ hlen
    have hc := hv.cell
    have hf := hv.frozen
    have hx := x.2.1.touch hS x.2.2.1
    have hTb : ∀ i, w2.heap.size ≤ i → T i := by intro k hk; rw [hT]; exact .inr hk
    have hTB : T w.heap.size := by rw [hT]; exact .inl rfl
    have hl : (flat pre).length + x.1.1.length ≤ 40000000000000 := by
      have h2 := flat_le pre
      have h3 := x.2.2.2
      simp at hlen
      omega
    have hsz : w2.heap.size ≤ W.heap.size := hS.size
    gi_wp2_with (gi_at_builtin; go_loud (refine wpListIn_append_reads rfl (.tmp 15) (.tmp 16) 22 rfl w2.heap.size 5 i0 (.int .u8 0) 1 1 Try.underlying22 hi hz0 hz1 hz2 rfl (by decide) _ _ _ rfl hrow _ _ _ rfl hx (bytes_oneCell _) (by unfold maxLen; omega) (by omega) hsz ?_))
    intro v' w3 hown hgrow _ _
    obtain ⟨b1, b2, b3, b4, b5⟩ := Cav.Boxed.app hv (by decide) hrow (KeepsOthers.refl W) (Stir.refl T W) hv hrow hTB hTb hown hgrow
    obtain ⟨a3, c3, rfl⟩ := owns_slice hown
    have m1 := b1.cell
    have m2 := b1.frozen
    clear hown hgrow hrow hx b1 hc hf hv
    gi_wp2
    exact ⟨b4.from _, b5, ⟨⟨_, b2, by simpa [flat] using b3, trivial⟩, hS.trans b5 (fun _ _ e => e)⟩⟩
  case done =>
    rintro D ys W hD rfl ⟨⟨v, hv, hrow, _⟩, hS⟩ hK
    have hc := hv.cell
    gi_wp2
    refine ⟨by simp, .inl ⟨_, _, rfl, run_takeDeferred hK, ?_⟩⟩
    refine ⟨_, results_tmp2 rfl _ _ _, v, rfl, ?_, ?_⟩
    · have := reads_putObj (Reads.of_owns hrow) (.deferred none) hK rfl
      rw [HFL.out] at this
      exact this
    · exact stir_end (q0.trans hS (fun k hk e => by rw [hT] at e; rcases e with e | e <;> omega)) (by omega) _
  case stop =>
    rintro D c pre W _ _ h _
    exact h.elim

end Go.Proofs.Ythllhpjjoifnmaa
