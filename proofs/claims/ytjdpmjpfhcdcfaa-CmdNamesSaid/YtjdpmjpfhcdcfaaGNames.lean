import Derived.Test.YtjdpmjpfhcdcfaaFi
import Derived.Test.YtjdpmjpfhcdcfaaCo
import Derived.Test.YtjdpmjpfhcdcfaaCavSort
import Derived.Test.YtjdpmjpfhcdcfaaShelf
import Derived.Test.YtjdpmjpfhcdcfaaGFind
/- What Names comes to: the iterator 'all' at a body that appends, a relation that tells blocks by their type. No conditions. -/
namespace Go.Proofs.Ytjdpmjpfhcdcfaa
open Go.RowKit Go.Shelf Go.Cav
attribute [local go_sem] Oper.semAt_some

/-- Of the old blocks of cells, only those in T and those of one type may have changed; of all below B only those in T. -/
structure StirT (B : Nat) (ty : TypeId) (T : Nat → Prop) (w w' : World) : Prop where
  os : w'.os = w.os
  tape : w'.tape = w.tape
  output : w'.output = w.output
  size : w.heap.size ≤ w'.heap.size
  block : ∀ i cs t fr, w.heap[i]? = some (.cells cs t fr) → t ≠ ty → ¬ T i → w'.heap[i]? = some (.cells cs t fr)
  old : ∀ i, i < B → i < w.heap.size → ¬ T i → w'.heap[i]? = w.heap[i]?
section
variable {B : Nat} {ty : TypeId} {T : Nat → Prop}
theorem StirT.refl (B : Nat) (ty : TypeId) (T : Nat → Prop) (w : World) : StirT B ty T w w := ⟨rfl, rfl, rfl, Nat.le_refl _, fun _ _ _ _ h _ _ => h, fun _ _ _ _ => rfl⟩
theorem StirT.trans {a b c : World} (h : StirT B ty T a b) (k : StirT B ty T b c) : StirT B ty T a c :=
  ⟨k.os.trans h.os, k.tape.trans h.tape, k.output.trans h.output, Nat.le_trans h.size k.size, fun i cs t fr ho hc hn => k.block i cs t fr (h.block i cs t fr ho hc hn) hc hn,
   fun i hi hl hn => (k.old i hi (Nat.lt_of_lt_of_le hl h.size) hn).trans (h.old i hi hl hn)⟩
theorem stirT_t {a b c : World} (h : StirT B ty T a b) (k : StirT B ty T b c) : StirT B ty T a c := h.trans k
theorem StirT.of_stir {S : Nat → Prop} {a b : World} (h : Stir S a b) (hs : ∀ i, S i → T i) : StirT B ty T a b :=
  ⟨h.os, h.tape, h.output, h.size, fun i _ _ _ ho _ hn => (h.block i (lt_of_heap ho) (fun e => hn (hs i e))).trans ho, fun i _ hl hn => h.block i hl (fun e => hn (hs i e))⟩
theorem StirT.alloc {a b : World} (h : StirT B ty T a b) (o : Obj) : StirT B ty T a (b.alloc o) := h.trans (StirT.of_stir ((Stir.refl (fun _ => False) b).alloc o) (fun _ e => e.elim))
theorem StirT.cell {a b : World} (h : StirT B ty T a b) {p : Addr} {v : Value} (hc : a.cell? p = some v) {cs : Array Value} {t : TypeId} {fr : Nat × Nat} (ho : a.heap[p.block]? = some (.cells cs t fr)) (hty : t ≠ ty) (hn : ¬ T p.block) : b.cell? p = some v :=
  (World.cell?_of_block ((h.block _ cs t fr ho hty hn).trans ho.symm)).trans hc
theorem StirT.grown {a b c : World} {row : Option Nat} (h : StirT B ty T a b) (hg : b.grownBy c row) (hr : ∀ r, row = some r → B ≤ r ∧ ∃ o : Obj, b.heap[r]? = some o ∧ o.isCells = false) : StirT B ty T a c :=
  h.trans ⟨hg.os, hg.tape, hg.output, hg.size, fun i cs t fr hq _ _ => by
    by_cases hi : some i = row
    · obtain ⟨_, o, ho, hc⟩ := hr i hi.symm
      rw [hq] at ho; cases ho; cases hc
    · exact (hg.block i (lt_of_heap hq) hi).trans hq,
   fun i hi hl _ => hg.block i hl (fun e => by have := (hr i e.symm).1; omega)⟩
theorem stirT_b (W : World) (l : Nat) (o o' : Obj) (hl : B ≤ l) (ho : W.heap[l]? = some o) (hc : o.isCells = false) : StirT B ty T W (W.putObj l o') :=
  (StirT.refl B ty T W).grown (grownBy_putObj' W l o') (fun r e => by cases e; exact ⟨hl, o, ho, hc⟩)
theorem ownFrom_stirT {β : Type} {B' : Nat} (w : World) (hB : B ≤ B') : OwnFrom (β := β) B' (fun _ W => StirT B ty T w W) :=
  fun _ _ _ _ hs hg hr => hs.grown hg (fun r e => ⟨Nat.le_trans hB (hr r e).1, (hr r e).2⟩)
theorem StirT.below {a b c : World} (h : StirT B ty T b c) (h0 : Below B a b) (hB : B ≤ b.heap.size) (hT : ∀ k, T k → B ≤ k) : Below B a c :=
  h0.trans ⟨h.os, h.tape, h.output, h.size, fun i hi => h.old i hi (by omega) (fun e => by have := hT i e; omega)⟩
/-- a row of the one type that grows -/
theorem StirT.grow_row {a b : World} {base size : Nat} {v : Value} {n : Nat} {xs : List Value} (ho : a.ownsRow base ty size v n xs) (hB : B ≤ base) (hg : a.grownBy b v.ownBlock) : StirT B ty T a b := by
  refine ⟨hg.os, hg.tape, hg.output, hg.size, fun i cs t fr hq hty _ => ?_, fun i hi hl _ => hg.block i hl (fun e => ?_)⟩
  · refine (hg.block i (lt_of_heap hq) (fun e => ?_)).trans hq
    rcases ho.2 with ⟨rfl, _⟩ | ⟨g, cap, cur, rfl, _, hgb, _⟩
    · simp [Value.ownBlock] at e
    · have e2 : g = i := by simpa [Value.ownBlock] using e.symm
      subst e2; rw [hq] at hgb; cases hgb; exact hty rfl
  · rcases ho.2 with ⟨rfl, _⟩ | ⟨g, cap, cur, rfl, hb, _, _⟩
    · simp [Value.ownBlock] at e
    · have e2 : g = i := by simpa [Value.ownBlock] using e.symm
      omega
end
theorem specs_at2 (w : World) : Calls Try.prog 30 #[] w fun e w' => ∃ ad, e = .returned (.slice (some ad) 54 54) ∧ ad.block = w.heap.size ∧ w.grownBy w' none ∧ Below w.heap.size w w' ∧ SpecsAt w' ad ∧ ∃ sc, w'.heap[ad.block]? = some (.cells sc 26 (0, 0)) := by
  refine (specs_calls w).mono ?_
  rintro e w' ⟨rfl, rfl⟩
  refine ⟨_, rfl, rfl, Stir.grownBy ((Stir.refl _ w).alloc _), (Below.refl _ w).alloc (Nat.le_refl _) _, fun k s hs => ?_, _, heap_alloc_new w _⟩
  have hadd : ∀ m, (⟨w.heap.size, 0, none⟩ : Addr).add m = ⟨w.heap.size, m, none⟩ := fun m => by unfold Addr.add; split <;> simp_all
  have hc : ∀ j, j < 7 → (w.alloc (.cells specCells 26)).cell? ⟨w.heap.size, k * 7 + j, none⟩ = (encS s)[j]? := fun j hj => by
    unfold World.cell?
    rw [heap_alloc_new]
    show specCells[k * 7 + j]? = _
    rw [specCells_list, List.getElem?_toArray]
    exact flat7 _ _ _ _ hs hj
  rw [hadd]
  exact ⟨hc 0 (by omega), hc 1 (by omega), hc 2 (by omega), hc 3 (by omega), hc 4 (by omega), hc 5 (by omega), hc 6 (by omega)⟩

set_option maxRecDepth 100000 in
set_option maxHeartbeats 4000000 in
theorem all1_inT (n : Nat) (hn : 1 ≤ n) (l B : Nat) (T : Nat → Prop) (J Jx : List SpecV → World → Prop) (W : World) (hTn : ∀ k, W.heap.size ≤ k → ¬ T k) (hA : AbidesFrom W.heap.size J)
    (hY : ∀ pre x W, J pre W → pre.length < specL.length → YieldAt Fence.wide (n - 1) Try.prog l #[.agg (encS x).toArray] W fun e W' =>
      (e = .returned (.bool true) ∧ J (pre ++ [x]) W' ∧ StirT B 9 T W W') ∨ (e = .returned (.bool false) ∧ Jx (pre ++ [x]) W')) (h0 : J [] W) :
    CallsIn Fence.wide n Try.prog 29 #[.func (.yield l) #[] #[]] W fun e W' => (∃ v, e = .returned v) ∧
      ((∃ ys, ys = specL ∧ J ys W') ∨ (∃ pre, pre <+: specL ∧ Jx pre W')) := by
  refine callsIn_of_wp Try.func29 rfl trivial ?_ rfl
  simp only [Try.ntmps29, List.size_toArray, List.length_cons, List.length_nil, Nat.reduceAdd, Nat.reduceSub, Array.replicate_succ, Array.replicate_zero, List.push_toArray, List.append_toArray, List.nil_append, List.cons_append]
  gi_wp2_with fail
  refine ⟨trivial, (callsIn_wide.2 (specs_at2 W)).mono ?_⟩
  rintro e W1 ⟨ad, rfl, hadb, hgr, hbl, hcs, sc, hblk⟩
  have hJ1 := hA _ _ _ none h0 hgr (fun r e => by cases e)
  have hb : ¬ T ad.block := by rw [hadb]; exact hTn _ (Nat.le_refl _)
  have hs1 : W.heap.size ≤ W1.heap.size := hbl.size
  clear hadb hgr hbl
  gi_wp2_with fail
  gi_loopw [6] (fun i wr => ∃ k : Nat, k ≤ 54 ∧ i = .int .i64 k ∧ J (specL.take k) wr ∧ StirT B 9 T W1 wr)
    (fun i _ => 54 - (intOf i).toNat)
  case atStart => exact ⟨0, Nat.zero_le _, rfl, by simpa using hJ1, StirT.refl _ _ _ _⟩
  case round =>
    obtain ⟨k, hk, rfl, hJs, hnx⟩ := hrel
    by_cases hlt : k < 54
    · obtain ⟨x, hx⟩ : ∃ x, specL[k]? = some x := ⟨_, List.getElem?_eq_getElem (by rw [specL_length]; omega)⟩
      obtain ⟨c0, c1, c2, c3, c4, c5, c6⟩ := hcs k x hx
      have d0 := hnx.cell c0 (by rw [add_block]; exact hblk) (by decide) (by rw [add_block]; exact hb)
      have d1 := hnx.cell c1 (by show W1.heap[_]? = _; rw [add_block]; exact hblk) (by decide) (by show ¬ T _; rw [add_block]; exact hb)
      have d2 := hnx.cell c2 (by show W1.heap[_]? = _; rw [add_block]; exact hblk) (by decide) (by show ¬ T _; rw [add_block]; exact hb)
      have d3 := hnx.cell c3 (by show W1.heap[_]? = _; rw [add_block]; exact hblk) (by decide) (by show ¬ T _; rw [add_block]; exact hb)
      have d4 := hnx.cell c4 (by show W1.heap[_]? = _; rw [add_block]; exact hblk) (by decide) (by show ¬ T _; rw [add_block]; exact hb)
      have d5 := hnx.cell c5 (by show W1.heap[_]? = _; rw [add_block]; exact hblk) (by decide) (by show ¬ T _; rw [add_block]; exact hb)
      have d6 := hnx.cell c6 (by show W1.heap[_]? = _; rw [add_block]; exact hblk) (by decide) (by show ¬ T _; rw [add_block]; exact hb)
      clear c0 c1 c2 c3 c4 c5 c6
      have hJ1 := hA _ _ (wr.alloc (.cells (encS x).toArray 26)) none hJs (Stir.grownBy ((Stir.refl _ wr).alloc _)) (fun r e => by cases e)
      obtain ⟨fn, tmps, assign, body, hy, hR⟩ := hY _ x _ hJ1 (by rw [List.length_take, specL_length]; omega)
      have htk : specL.take (k + 1) = specL.take k ++ [x] := by rw [List.take_add_one, hx]; rfl
      have HT := Lib.hid htk
      clear htk hx hcs
      obtain ⟨s0, s1, s2, s3, s4, s5, s6⟩ := x
      simp only [encS] at hy hR
      dsimp only at d0 d1 d2 d3 d4 d5 d6
      gi_wp2_with fail
      refine hR.mono ?_
      rintro e W3 (⟨rfl, hJ3, hk3⟩ | ⟨rfl, hJx3⟩)
      · gi_wp2
        go_roundw
        case rel => exact ⟨k + 1, by omega, by simp, by rw [HT.out]; exact hJ3, (hnx.alloc _).trans hk3⟩
        case measure => simp [intOf]; omega
      · gi_wp2
        refine bodyPost_ret (results_none rfl _ _ _) rfl ?_
        exact ⟨⟨_, rfl⟩, .inr ⟨_, by rw [← HT.out]; exact List.take_prefix _ _, hJx3⟩⟩
    · obtain rfl : k = 54 := by omega
      gi_wp2
      go_end0
      exact ⟨⟨_, rfl⟩, .inl ⟨_, rfl, by rw [List.take_of_length_le (by rw [specL_length]; omega)] at hJs; exact hJs⟩⟩


theorem all_stopsT (n : Nat) (hn : 1 ≤ n) (B : Nat) (T : Nat → Prop) (w : World) (hT : ∀ k, w.heap.size ≤ k → ¬ T k) :
    SeqStopsK Fence.wide n Try.prog 29 #[] (fun x : SpecV => #[.agg (encS x).toArray]) (StirT B 9 T) (fun ys => ys = specL) (fun pre => pre <+: specL) specL.length w := fun l J Jx W hW hA _ hY h0 =>
  all1_inT n hn l B T J Jx W (fun k h => hT k (Nat.le_trans hW.size h)) hA hY h0
end Go.Proofs.Ytjdpmjpfhcdcfaa

/- What Names hands back: the names of all commands, as the library's sort leaves them. No conditions. -/
namespace Go.Proofs.Ytjdpmjpfhcdcfaa
open Go.RowKit Go.Shelf Go.Cav
attribute [local go_sem] Oper.semAt_some

/-- the names, as the commands stand -/
def nmL (l : List SpecV) : List ByteArray := l.map (·.nm)
theorem nmL_snoc (l : List SpecV) (x : SpecV) : nmL (l ++ [x]) = nmL l ++ [x.nm] := by simp [nmL]
theorem nmL_length (l : List SpecV) : (nmL l).length = l.length := by simp [nmL]

set_option maxRecDepth 100000 in
set_option maxHeartbeats 2000000 in
theorem names_any (w : World) : Calls Try.prog 17 #[] w fun e w' => ∃ g cap, e = .returned (.slice (some ⟨g, 0, none⟩) 54 cap) ∧ 54 ≤ cap ∧ w.heap.size ≤ g ∧ Go.Sort.Holds encStr w' g 0 (sortL (nmL specL)).toArray ∧ Below w.heap.size w w' := by
  obtain ⟨i0, hi, hz0, hz1, hz2⟩ := info_parts info9'
  have bS := Boxed.new w 22 (.slice none 0 0)
  refine (callsIn_wide (n := 6)).1 ?_
  have h1 : 1 ≤ 6 := by omega
  refine callsIn_of_wp_marks Try.func17 rfl trivial ?_ rfl
  simp only [Try.ntmps17, List.size_toArray, List.length_nil, Nat.reduceSub, Array.replicate_succ, Array.replicate_zero, List.push_toArray, List.append_toArray, List.nil_append, List.cons_append]
  have hb0 : Below w.heap.size w (w.alloc (.cells #[.slice none 0 0] 22)) := (Below.refl _ w).alloc (Nat.le_refl _) _
  have hz0' : (w.alloc (.cells #[.slice none 0 0] 22)).heap.size = w.heap.size + 1 := by simp
  gi_wp2_with fail
  refine ⟨trivial, (callsIn_wide.2 (all_any _)).mono ?_⟩
  rintro e w2 ⟨rfl, rfl⟩
  gi_wp2_with fail
  generalize w.alloc (.cells #[.slice none 0 0] 22) = w2 at bS hb0 hz0' ⊢
  rename_i Q0 K0 hK0
  have HK0 := Lib.hid hK0
  clear hK0
  obtain ⟨T, hT⟩ : ∃ T : Nat → Prop, T = (fun k => k = w.heap.size) := ⟨_, rfl⟩
  refine wpIn_rangeFunc_ownH rfl h1 (gf := 29) (lb := #[]) rfl trivial (enters_of Try.func29 (by kernel_rfl) rfl)
    (all_stopsT 5 (by omega) w.heap.size T w2 (by rw [hT]; intro k hk; omega))
    stirT_t (fun W l o o' a b c _ => stirT_b W l o o' (by omega) b c) (Below.refl _ _) (fun _ => rfl)
    (fun pre W => (∃ v, Boxed W w.heap.size 22 v ∧ W.ownsRow w.heap.size 9 1 v (nmL pre).length ((nmL pre).map .string) ∧ True) ∧ StirT w.heap.size 9 T w2 W)
    (fun _ _ _ => False)
    (OwnFrom.and (Own.from (holdsRow_own w.heap.size w.heap.size 22 9 1 (fun pre : List SpecV => (nmL pre).length) (fun pre => (nmL pre).map .string) (fun _ _ => True)) _) (ownFrom_stirT w2 (by omega)))
    (fun _ => ownFrom_no)
    ⟨⟨_, bS, World.ownsRow_nil _ _ _ _, trivial⟩, StirT.refl _ _ _ _⟩
    (fun x a' W => ∃ b, w2.heap.size ≤ b ∧ RowAt W b x ∧ a' = { tmps := #[.slice none 0 0, .pointer (some ⟨w.heap.size, 0, none⟩), .pointer (some ⟨b, 0, none⟩), .func (.func 29) #[] #[], .agg (encS x).toArray, undef, undef, undef, undef, undef, undef, undef, undef], defers := [] })
    (fun x a' s W W' row h hg hr => by
      obtain ⟨b, h0, h1, h2⟩ := h
      exact ⟨b, h0, (Own.from (rowAt_own (β := Unit) b (fun _ => x)) _) () W W' row h1 hg hr, h2⟩) ?assign ?body ?done ?stop
  case assign =>
    rintro l pre ⟨s0, s1, s2, s3, s4, s5, s6⟩ W K ⟨⟨v, hv, hrow, _⟩, hS⟩ hK
    have hsz : w2.heap.size ≤ W.heap.size := hS.size
    have hg : W.grownBy (W.alloc (.cells (encS ⟨s0, s1, s2, s3, s4, s5, s6⟩).toArray 26)) none := World.grownBy_alloc W _ none
    have hk := hK { tmps := #[.slice none 0 0, .pointer (some ⟨w.heap.size, 0, none⟩), .pointer (some ⟨W.heap.size, 0, none⟩), .func (.func 29) #[] #[], .agg (encS ⟨s0, s1, s2, s3, s4, s5, s6⟩).toArray, undef, undef, undef, undef, undef, undef, undef, undef], defers := [] } (W.alloc (.cells (encS ⟨s0, s1, s2, s3, s4, s5, s6⟩).toArray 26))
      (KeepsFrom.of_grownBy hg (fun j e => by cases e)) ((StirT.refl _ _ _ _).alloc _)
      ⟨⟨v, hv.alloc _, hrow.alloc _, trivial⟩, hS.alloc _⟩ ⟨_, hsz, heap_alloc_new W _, rfl⟩
    clear hK hg hv hrow hS
    simp only [encS] at hk ⊢
    gi_wp2
    exact hk
  case body =>
    rintro l pre x a' W hl _ ⟨⟨v, hv, hrow, _⟩, hS⟩ ⟨b, hbz, hb, rfl⟩ hlen
    have e1 : W.cell? ⟨b, 0, none⟩ = some (.string x.nm) := by unfold World.cell?; rw [show W.heap[b]? = _ from hb]; rfl
    have hc := hv.cell
    have hsz : w2.heap.size ≤ W.heap.size := hS.size
    have hpl : (nmL pre).length ≤ 54 := by rw [nmL_length]; rw [specL_length] at hlen; omega
    have hv0 := hv.alloc (.cells #[.string x.nm] 9)
    have hf0 := hv0.frozen
    have hrow0 : (W.alloc (.cells #[.string x.nm] 9)).ownsRow w.heap.size 9 1 v (nmL pre).length ((nmL pre).map .string) := hrow.kept (World.grownBy_alloc W _ none) (by cases h : v.ownBlock with | none => exact .inl rfl | some _ => exact .inr (by simp))
    have hS0 : Stir (fun k => w.heap.size ≤ k) W (W.alloc (.cells #[.string x.nm] 9)) := (Stir.refl _ W).alloc _
    have hK0 : KeepsOthers W (W.alloc (.cells #[.string x.nm] 9)) := KeepsOthers.of_grownBy (World.grownBy_alloc W _ none) (fun j o e _ => by cases e)
    have hx : ∀ j u, ([.string x.nm] : List Value)[j]? = some u → (W.alloc (.cells #[.string x.nm] 9)).cell? ((⟨W.heap.size, 0, none⟩ : Addr).add j) = some u := by
      intro j u hj
      match j, hj with
      | 0, hj => cases hj; show (W.alloc (.cells #[.string x.nm] 9)).cell? ⟨W.heap.size, 0, none⟩ = _; unfold World.cell?; rw [heap_alloc_new]; rfl
      | j + 1, hj => simp at hj
    have hST0 : StirT w.heap.size 9 T W (W.alloc (.cells #[.string x.nm] 9)) := (StirT.refl _ _ _ _).alloc _
    have HST := Lib.hid hST0
    clear hST0 hb
    gi_wp2_with (gi_at_builtin; go_loud (refine wpListIn_append_own (W.alloc (.cells #[.string x.nm] 9)) rfl (.tmp 5) (.tmp 8) 22 rfl w.heap.size 9 i0 (.string ⟨#[]⟩) 1 16 Try.underlying22 hi hz0 hz1 hz2 rfl (by decide) _ _ _ rfl hrow0 ⟨W.heap.size, 0, none⟩ 1 1 [.string x.nm] rfl rfl hx (by intro u hu; rw [List.mem_singleton.1 hu]; rfl) (by unfold maxLen; omega) (by omega) (by simp; omega) ?_))
    intro v' w3 hown hgrow _
    obtain ⟨b1, b2, b3, b4, b5⟩ := Cav.Boxed.app hv (by decide) hrow hK0 hS0 hv0 hrow0 (Nat.le_refl _) (fun _ h => h) hown hgrow
    have hst3 : StirT w.heap.size 9 T W (w3.setCell ⟨w.heap.size, 0, none⟩ v') :=
      (HST.out.trans (StirT.grow_row hrow0 (Nat.le_refl _) hgrow)).trans (StirT.of_stir ((Stir.refl (fun k => k = w.heap.size) w3).setCell (p := ⟨w.heap.size, 0, none⟩) (fun _ => rfl) v') (fun i e => by rw [hT]; exact e))
    obtain ⟨a3, c3, rfl⟩ := owns_slice hown
    have m1 := b1.cell
    have m2 := b1.frozen
    have Hst3 := Lib.hid hst3
    clear hown hgrow hrow b1 hc hv hv0 hrow0 hS0 hK0 hx hf0 hst3 HST
    gi_wp2
    refine ⟨b4.from _, Hst3.out, ⟨⟨_, b2, ?_, trivial⟩, hS.trans Hst3.out⟩⟩
    rw [nmL_snoc]
    simpa using b3
  case done =>
    rintro D ys W hD rfl ⟨⟨v, hv, hrow, _⟩, hS⟩ hK
    refine HK0.out _ _ ?_
    have hc := hv.cell
    rcases owns_shape hrow with ⟨_, e0⟩ | ⟨g, cap, rfl⟩
    · rw [nmL_length, specL_length] at e0; omega
    have hH := holds_owns hrow
    have hgb : w.heap.size ≤ g := (hrow.lt g rfl).1
    have hgl : g < W.heap.size := (hrow.lt g rfl).2
    have hcap : 54 ≤ cap := by
      rcases hrow.2 with ⟨e1, _⟩ | ⟨g', cap', cur, e1, _, _, hn, _⟩
      · cases e1
      · cases e1; rw [nmL_length, specL_length] at hn; exact hn
    have hne : g ≠ D := by
      rintro rfl
      rcases hrow.2 with ⟨e1, _⟩ | ⟨g', cap', cur, e1, _, hgg, _⟩
      · cases e1
      · cases e1; rw [hK] at hgg; cases hgg
    have hneS : g ≠ w.heap.size := by
      have := hv.not_row (by decide) hrow
      intro e; rw [← e] at this; simp [Value.ownBlock] at this
    have hl54 : (nmL specL).length = 54 := by rw [nmL_length, specL_length]
    have hlm : ((nmL specL).map ByteArray.toList).length = 54 := by rw [List.length_map, hl54]
    have hs := Try.slices_Sort_string g 0 cap ((nmL specL).map ByteArray.toList) W hH hgl (by rw [hlm]; omega)
    rw [hlm] at hs
    have hs' : Calls Try.prog 27 #[.slice (some ⟨g, 0, none⟩) 54 cap] W fun e w' => e = .returned (.tuple #[]) ∧ Go.Sort.Holds encStr w' g 0 (sortL (nmL specL)).toArray ∧ Stir (fun k => k = g) W w' := by
      refine hs.mono ?_
      rintro e w' ⟨rfl, n, os, rfl⟩
      refine ⟨rfl, ?_, stir_grow (stir_putRow _ _ _ _ _ _) _⟩
      exact Go.Sort.holds_grow _ _ _ _ _ _ (by simpa using hgl) (Go.Sort.holds_putRow encStr (Go.Sort.ahead W n) g 0 _ (sortL (nmL specL)).toArray (Go.Sort.holds_ahead _ _ n _ _ _ hH) (by
        have := sortL_length (nmL specL)
        simp only [List.size_toArray, List.length_map]; omega))
    have hB : Below w.heap.size w W := hS.below hb0 (by omega) (by rw [hT]; intro k h; omega)
    have HB := Lib.hid hB
    have HV := Lib.hid hv
    rw [hl54] at hc
    clear hs hH hlm hl54 hrow hB hv
    gi_wp2_with fail
    refine ⟨trivial, (callsIn_wide.2 hs').mono ?_⟩
    rintro e w3 ⟨rfl, hH3, hst3⟩
    clear hs'
    have hv3 : Boxed w3 w.heap.size 22 _ := (hst3.block _ HV.out.lt (by omega)).trans HV.out
    have hK3 : w3.heap[D]? = some (.deferred (some [])) := (hst3.block D (lt_of_heap hK) (by omega)).trans hK
    have hc3 := hv3.cell
    rw [nmL_length, specL_length] at hc3
    have HH3 := Lib.hid hH3
    have Hst3 := Lib.hid hst3
    clear hH3 hst3 hv3 hc hK
    gi_wp2
    refine ⟨by simp, .inl ⟨_, _, rfl, run_takeDeferred hK3, ?_⟩⟩
    refine ⟨_, results_tmp rfl _ _ _, g, cap, rfl, hcap, hgb, ?_, ?_⟩
    · intro j hj
      have hb : (w3.putObj D (.deferred none)).heap[g]? = w3.heap[g]? := (grownBy_putObj' w3 D _).block g (by have := Hst3.out.size; omega) (by simp; exact fun e => hne e)
      obtain ⟨q1, q2⟩ := HH3.out j hj
      exact ⟨(World.cell?_of_block hb).trans q1, (World.frozen?_of_block hb).trans q2⟩
    · have s1 := (Stir.of_below HB.out (fun k => w.heap.size ≤ k)).trans Hst3.out (fun i _ e => by subst e; exact hgb)
      exact (s1.grown (grownBy_putObj' w3 D _) (fun k e _ => by cases e; omega)).below (Nat.le_refl _) (fun k h => h)
  case stop =>
    rintro D c pre W _ _ h _
    exact h.elim
end Go.Proofs.Ytjdpmjpfhcdcfaa

/- cmd.Names in the print's words. No conditions. -/
namespace Go.Proofs.Ytjdpmjpfhcdcfaa.G
open Go.RowKit Go.Cav Go.Proofs.YtjdpmjpfhcdcfaaW Go.Proofs.YtjdpmjpfhcdcfaaW.PrintWords Go.Proofs.YtjdpmjpfhcdcfaaW.PrintLast Go.Proofs.YtjdpmjpfhcdcfaaW.PrintMore
/-- the names, rising -/
def namesP : List ByteArray := (sortL (nmL specL)).map ofL
theorem namesP_length : namesP.length = 54 := by unfold namesP; rw [List.length_map, sortL_length, nmL_length, specL_length]
/-- what reads as texts, told by its footprint -/
theorem V_cells {w : World} {B g cap : Nat} {L : List (List UInt8)} (hl : L.length ≤ 9223372036854775807) (hc : L.length ≤ cap) (hg : B ≤ g) (h : Go.Sort.Holds encStr w g 0 L.toArray) :
    Kd.V Kd.string 9 w B (fun k => B ≤ k) (.slice (some ⟨g, 0, none⟩) (L.map ofL).length cap) (L.map ofL) := by
  refine Kd.V_mk (by rw [List.length_map]; exact hc) ?_
  intro W' hW
  refine ⟨rfl, by simpa using hl, fun hpos => ⟨_, rfl, fun j p hj => ?_⟩⟩
  rw [List.getElem?_map] at hj
  obtain ⟨x, hx, rfl⟩ := Option.map_eq_some_iff.1 hj
  obtain ⟨hj2, rfl⟩ := List.getElem?_eq_some_iff.1 hx
  refine ⟨[.string (ofL L[j])], rfl, rfl, fun i u hu => ?_⟩
  match i, hu with
  | 0, hu =>
    cases hu
    have h1 := holds_cells h j hj2
    have hlt := World.block_lt_of_cell? w _ h1
    have h2 : W'.cell? ⟨g, j, none⟩ = w.cell? ⟨g, j, none⟩ := World.cell?_of_block (hW g hg hlt)
    have ha : (⟨g, 0, none⟩ : Addr).add (j * (Kd.string).sz + 0) = ⟨g, j, none⟩ := by simp only [Kd.string, Kd.scalar]; unfold Addr.add; split <;> simp_all
    rw [ha]; exact h2.trans h1
  | i + 1, hu => simp at hu
def cmd_Names.f : Option (List ByteArray) := some namesP
theorem cmd_Names.calls (r : List ByteArray) (w : World) (h : cmd_Names.f = some r) :
    Calls Try.prog 17 #[] w fun e w' => ∃ v0_ : Value, e = .returned (v0_) ∧ Kd.V Kd.string 9 w' w.heap.size (fun k_ => (w.heap.size ≤ k_)) v0_ r ∧ Below w.heap.size w w' := by
  obtain rfl := Option.some.inj h
  refine (names_any w).mono ?_
  rintro e w' ⟨g, cap, rfl, hcap, hg, hH, hB⟩
  have hl : (sortL (nmL specL)).length = 54 := by rw [sortL_length, nmL_length, specL_length]
  have hv := V_cells (w := w') (B := w.heap.size) (cap := cap) (by omega) (by omega) hg hH
  rw [List.length_map, hl] at hv
  exact ⟨_, rfl, hv, hB⟩
end Go.Proofs.Ytjdpmjpfhcdcfaa.G
