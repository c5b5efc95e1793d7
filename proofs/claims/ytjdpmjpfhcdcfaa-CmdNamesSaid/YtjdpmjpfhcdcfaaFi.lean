/- What Find hands back. Condition: the name's length below 9 * 10^18. -/
import Derived.Test.YtjdpmjpfhcdcfaaSr
import Derived.Test.YtjdpmjpfhcdcfaaUp
import Derived.Test.YtjdpmjpfhcdcfaaCavF
namespace Go.Proofs.Ytjdpmjpfhcdcfaa
open Go.RowKit Go.Shelf Go.Cav
attribute [local go_sem] Oper.semAt_some

def zeroS : SpecV := ⟨⟨#[]⟩, 0, 0, 0, 0, 0, false⟩
theorem encS_size (s : SpecV) : (encS s).toArray.size = 7 := rfl
theorem encS_one (s : SpecV) : (encS s).toArray.all (·.oneCell') = true := by simp [encS]; exact ⟨rfl, rfl, rfl, rfl, rfl, rfl, rfl⟩
theorem results_row_bool {fn : Func} {p q : Tmp} (h : fn.results = #[.cell p 26, .cell q 4]) (tmps : Array Value) (w : World) (g g' : Nat) (s : SpecV) (b : Bool) (hp : tmps.getD p undef = .pointer (some ⟨g, 0, none⟩)) (hq : tmps.getD q undef = .pointer (some ⟨g', 0, none⟩))
    (hg : w.heap[g]? = some (.cells (encS s).toArray 26 (0, 0))) (hc : w.cell? ⟨g', 0, none⟩ = some (.bool b)) :
    (results fn tmps).run Try.prog w = .ok (.tuple #[.agg (encS s).toArray, .bool b]) w := by
  have hp' : tmps[p]?.getD undef = .pointer (some ⟨g, 0, none⟩) := by simpa using hp
  have hq' : tmps[q]?.getD undef = .pointer (some ⟨g', 0, none⟩) := by simpa using hq
  have hr := run_loadVar_row (P := Try.prog) w g 26 26 (encS s).toArray (0, 0) _ hg Try.underlying26 rfl (by kernel_rfl)
  have hb : (loadVar 4 ⟨g', 0, none⟩).run Try.prog w = .ok (.bool b) w := by simp [go_sem, hc]
  simp [results, h, hp', hq', asAddr, hr, hb]
/-- a row of cells that is no other's -/
def RowAt (W : World) (b : Nat) (s : SpecV) : Prop := W.heap[b]? = some (.cells (encS s).toArray 26 (0, 0))
theorem rowAt_own {β : Type} (b : Nat) (f : β → SpecV) : Own (fun s W => RowAt W b (f s)) := fun s X Y row hs hg hrow => by
  have hs' : X.heap[b]? = _ := hs
  refine (hg.block b (Array.getElem?_eq_some_iff.1 hs').1 (fun e => ?_)).trans hs'
  obtain ⟨o, h1, h2⟩ := hrow b e.symm
  rw [hs'] at h1; cases h1; cases h2
theorem RowAt.kept {W W' : World} {row : Option Nat} {b : Nat} {s : SpecV} (h : RowAt W b s) (hg : W.grownBy W' row) (hne : some b ≠ row) : RowAt W' b s := (hg.block b (Array.getElem?_eq_some_iff.1 h).1 hne).trans h
theorem RowAt.lt {W : World} {b : Nat} {s : SpecV} (h : RowAt W b s) : b < W.heap.size := (Array.getElem?_eq_some_iff.1 h).1
theorem run_store_spec (W : World) (b : Nat) (s s' : SpecV) (h : RowAt W b s) : (storeVar 26 ⟨b, 0, none⟩ (.agg (encS s').toArray)).run Try.prog W = .ok () (W.setRow b (encS s').toArray) :=
  run_storeVar_row W b 26 26 _ _ h (by kernel_rfl) rfl (encS_one s')

/-- what Find answers -/
def findP (s : ByteArray) : Option SpecV := specL.find? (fun x => x.nm.toList == (upB s).toList)

set_option maxRecDepth 100000 in
set_option maxHeartbeats 2000000 in
theorem find_any (s : ByteArray) (w : World) (hsz : s.size ≤ 9000000000000000000) :
    Calls Try.prog 11 #[.string s] w fun e w' => e = .returned (.tuple #[.agg (encS ((findP s).getD zeroS)).toArray, .bool (findP s).isSome]) ∧ Below w.heap.size w w' := by
  refine (callsIn_wide (n := 6)).1 ?_
  have h1 : 1 ≤ 6 := by omega
  refine callsIn_of_wp_marks Try.func11 rfl trivial ?_ rfl
  simp only [Try.ntmps11, List.size_toArray, List.length_cons, List.length_nil, Nat.reduceAdd, Nat.reduceSub, Array.replicate_succ, Array.replicate_zero, List.push_toArray, List.append_toArray, List.nil_append, List.cons_append]
  have bN := Boxed.new w 9 (.string s)
  have bR : RowAt ((w.alloc (.cells #[.string s] 9)).alloc (.cells (encS zeroS).toArray 26)) (w.heap.size + 1) zeroS := by
    have := heap_alloc_new (w.alloc (.cells #[.string s] 9)) (.cells (encS zeroS).toArray 26)
    rw [World.size_alloc] at this; exact this
  have bB := Boxed.new ((w.alloc (.cells #[.string s] 9)).alloc (.cells (encS zeroS).toArray 26)) 4 (.bool false)
  have bN := (bN.alloc (.cells (encS zeroS).toArray 26)).alloc (.cells #[.bool false] 4)
  have bR : RowAt (((w.alloc (.cells #[.string s] 9)).alloc (.cells (encS zeroS).toArray 26)).alloc (.cells #[.bool false] 4)) (w.heap.size + 1) zeroS := (Below.heap_alloc _ _ _ (by simp)).trans bR
  simp only [World.size_alloc] at bN bR bB
  have hb0 : Below w.heap.size w (((w.alloc (.cells #[.string s] 9)).alloc (.cells (encS zeroS).toArray 26)).alloc (.cells #[.bool false] 4)) := (((Below.refl _ w).alloc (Nat.le_refl _) _).alloc (by simp) _).alloc (by simp; omega) _
  have hz0 : (((w.alloc (.cells #[.string s] 9)).alloc (.cells (encS zeroS).toArray 26)).alloc (.cells #[.bool false] 4)).heap.size = w.heap.size + 3 := by simp
  have hup := upper_calls s (((w.alloc (.cells #[.string s] 9)).alloc (.cells (encS zeroS).toArray 26)).alloc (.cells #[.bool false] 4)) hsz
  have hzs : (encS zeroS).toArray = #[.string ⟨#[]⟩, .int .i64 0, .int .i64 0, .int .i64 0, .int .i64 0, .int .i64 0, .bool false] := rfl
  rw [hzs] at bN bR bB hb0 hz0 hup
  gi_wp2_with fail
  generalize (((w.alloc (.cells #[.string s] 9)).alloc (.cells #[.string ⟨#[]⟩, .int .i64 0, .int .i64 0, .int .i64 0, .int .i64 0, .int .i64 0, .bool false] 26)).alloc (.cells #[.bool false] 4)) = w0 at bN bR bB hb0 hz0 hup ⊢
  refine ⟨trivial, (callsIn_wide.2 hup).mono ?_⟩
  rintro e w1 ⟨rfl, hw1⟩
  obtain ⟨nm, hnm⟩ : ∃ nm, nm = upB s := ⟨_, rfl⟩
  have hfd : findP s = specL.find? (fun x => x.nm.toList == nm.toList) := by rw [hnm]; rfl
  have HF := Lib.hid hfd
  clear hfd
  rw [← hnm]
  clear hnm hup
  have bN1 : Boxed w1 w.heap.size 9 (.string s) := (hw1.block _ bN.lt).trans bN
  have bB1 : Boxed w1 (w.heap.size + 1 + 1) 4 (.bool false) := (hw1.block _ bB.lt).trans bB
  have bR1 : RowAt w1 (w.heap.size + 1) zeroS := (hw1.block _ (by omega)).trans bR
  have hb1 : Below w.heap.size w w1 := hb0.trans (hw1.mono (by omega))
  have hz1 : w.heap.size + 3 ≤ w1.heap.size := by have := hw1.size; omega
  clear bN bB bR hb0 hw1 hz0 hzs
  have cN := bN1.cell
  have fN := bN1.frozen
  have bN2 := bN1.set (.string nm)
  have bB2 : Boxed (w1.setCell ⟨w.heap.size, 0, none⟩ (.string nm)) (w.heap.size + 1 + 1) 4 (.bool false) := bB1.other (by omega) _
  have bR2 : RowAt (w1.setCell ⟨w.heap.size, 0, none⟩ (.string nm)) (w.heap.size + 1) zeroS := bR1.kept (grownBy_setCell' w1 w.heap.size _) (by simp)
  have hb2 : Below w.heap.size w (w1.setCell ⟨w.heap.size, 0, none⟩ (.string nm)) := ((Stir.of_below hb1 (fun k => w.heap.size ≤ k)).setCell (fun _ => Nat.le_refl _) _).below (Nat.le_refl _) (fun k h => h)
  have hz2 : w.heap.size + 3 ≤ (w1.setCell ⟨w.heap.size, 0, none⟩ (.string nm)).heap.size := by simpa [World.setCell] using hz1
  have HN := Lib.hid bN2
  have HB := Lib.hid bB2
  have HR := Lib.hid bR2
  have Hb := Lib.hid hb2
  have Hz := Lib.hid hz2
  clear bN2 bB2 bR2 hb2 hz2 bN1 bB1 bR1 hb1
  gi_wp2_with fail
  refine ⟨trivial, (callsIn_wide.2 (all_any _)).mono ?_⟩
  rintro e w2 ⟨rfl, rfl⟩
  gi_wp2_with fail
  generalize w1.setCell ⟨w.heap.size, 0, none⟩ (.string nm) = w2 at HN HB HR Hb Hz ⊢
  obtain ⟨T, hT⟩ : ∃ T : Nat → Prop, T = (fun k => k = w.heap.size + 1 ∨ k = w.heap.size + 1 + 1) := ⟨_, rfl⟩
  have hz := Hz.out
  clear cN fN hz1 bN bR
  rename_i Q0 K0 hK0
  have HK0 := Lib.hid hK0
  clear hK0
  refine wpIn_rangeFunc_ownH rfl h1 (gf := 29) (lb := #[]) rfl trivial (enters_of Try.func29 (by kernel_rfl) rfl)
    (all_stops 5 (by omega) w.heap.size T w2 (by rw [hT]; intro k hk; omega))
    stirC_t (fun W l o o' a b c _ => stirC_b W l o o' (by omega) b c) (Below.refl _ _) (fun _ => rfl)
    (fun pre W => (Boxed W w.heap.size 9 (.string nm) ∧ RowAt W (w.heap.size + 1) zeroS ∧ Boxed W (w.heap.size + 1 + 1) 4 (.bool false) ∧ StirC w.heap.size T w2 W) ∧ pre.find? (fun x => x.nm.toList == nm.toList) = none)
    (fun c pre W => (∃ x, RowAt W (w.heap.size + 1) x ∧ pre.find? (fun x => x.nm.toList == nm.toList) = some x) ∧ (Boxed W (w.heap.size + 1 + 1) 4 (.bool true) ∧ StirC w.heap.size T w2 W) ∧ c = .ret)
    (OwnFrom.and (OwnFrom.and (Own.from (boxed_own _ _ _) _) (OwnFrom.and (Own.from (rowAt_own _ _) _) (OwnFrom.and (Own.from (boxed_own _ _ _) _) (ownFrom_stirC w2 (by omega))))) (ownFrom_pure' _))
    (fun c => OwnFrom.and (fun s W W' row h hg hr => by
        obtain ⟨x, h1, h2⟩ := h
        exact ⟨x, (Own.from (rowAt_own (β := Unit) (w.heap.size + 1) (fun _ => x)) _) () W W' row h1 hg hr, h2⟩)
      (OwnFrom.and (OwnFrom.and (Own.from (boxed_own _ _ _) _) (ownFrom_stirC w2 (by omega))) (ownFrom_pure' _)))
    ⟨⟨HN.out, HR.out, HB.out, StirC.refl _ _ _⟩, rfl⟩
    (fun x a' W => ∃ b, w2.heap.size ≤ b ∧ RowAt W b x ∧ a' = { tmps := #[.string s, .pointer (some ⟨w.heap.size, 0, none⟩), .pointer (some ⟨w.heap.size + 1, 0, none⟩), .pointer (some ⟨w.heap.size + 1 + 1, 0, none⟩), .pointer (some ⟨b, 0, none⟩), .string s, .string nm, .func (.func 29) #[] #[], .agg (encS x).toArray, undef, undef, undef, undef, undef, undef], defers := [] })
    (fun x a' s W W' row h hg hr => by
      obtain ⟨b, h0, h1, h2⟩ := h
      exact ⟨b, h0, (Own.from (rowAt_own (β := Unit) b (fun _ => x)) _) () W W' row h1 hg hr, h2⟩) ?assign ?body ?done ?stop
  case assign =>
    rintro l pre ⟨s0, s1, s2, s3, s4, s5, s6⟩ W K hI hK
    have hsz : w2.heap.size ≤ W.heap.size := hI.1.2.2.2.size
    have hg : W.grownBy (W.alloc (.cells (encS ⟨s0, s1, s2, s3, s4, s5, s6⟩).toArray 26)) none := World.grownBy_alloc W _ none
    have hk := hK { tmps := #[.string s, .pointer (some ⟨w.heap.size, 0, none⟩), .pointer (some ⟨w.heap.size + 1, 0, none⟩), .pointer (some ⟨w.heap.size + 1 + 1, 0, none⟩), .pointer (some ⟨W.heap.size, 0, none⟩), .string s, .string nm, .func (.func 29) #[] #[], .agg (encS ⟨s0, s1, s2, s3, s4, s5, s6⟩).toArray, undef, undef, undef, undef, undef, undef], defers := [] } (W.alloc (.cells (encS ⟨s0, s1, s2, s3, s4, s5, s6⟩).toArray 26))
      (KeepsFrom.of_grownBy hg (fun j e => by cases e)) ((StirC.refl _ _ _).alloc _)
      ⟨⟨hI.1.1.alloc _, hI.1.2.1.kept hg (by simp), hI.1.2.2.1.alloc _, hI.1.2.2.2.alloc _⟩, hI.2⟩ ⟨_, hsz, heap_alloc_new W _, rfl⟩
    clear hK hI hg
    simp only [encS] at hk ⊢
    gi_wp2
    exact hk
  case body =>
    rintro l pre x a' W hl _ ⟨⟨v1, v2, v3, hS⟩, hr⟩ ⟨b, hbz, hb, rfl⟩ hlen
    have e1 : W.cell? ⟨b, 0, none⟩ = some (.string x.nm) := by unfold World.cell?; rw [show W.heap[b]? = _ from hb]; rfl
    have e2 := v1.cell
    have HS := Lib.hid (show Boxed W w.heap.size 9 (.string nm) ∧ RowAt W (w.heap.size + 1) zeroS ∧ Boxed W (w.heap.size + 1 + 1) 4 (.bool false) ∧ StirC w.heap.size T w2 W from ⟨v1, v2, v3, hS⟩)
    have HR := Lib.hid hr
    have Hb := Lib.hid hb
    clear v1 v2 v3 hS hr hb
    refine wpIn_block ?_
    refine wpIn_seq_k fun K hK => ?_
    cases q : (x.nm.toList == nm.toList)
    · gi_wp2
      exact ⟨KeepsFrom.refl _ _, StirC.refl _ _ _, HS.out, by rw [List.find?_append, HR.out]; simp [q]⟩
    · have HK := Lib.hid hK
      clear hK
      gi_wp2
      refine HK.out _ _ ?_
      refine wpIn_cond_true rfl ?_
      refine wpIn_seq_k fun K1 hK1 => ?_
      refine wpIn_region_lit ?_
      refine wpListIn_load_row rfl 26 (.tmp 4) rfl b rfl 26 _ (0, 0) _ Hb.out Try.underlying26 rfl (by kernel_rfl) ?_
      refine wpListIn_store_row rfl 26 (.tmp 2) (.tmp 13) rfl (w.heap.size + 1) (encS x).toArray rfl rfl 26 _ HS.out.2.1 (by kernel_rfl) rfl (encS_one x) ?_
      have r1 : RowAt (W.setRow (w.heap.size + 1) (encS x).toArray) (w.heap.size + 1) x := setRow_heap _ _ _ _ _ _ HS.out.2.1
      have r2 : Boxed (W.setRow (w.heap.size + 1) (encS x).toArray) (w.heap.size + 1 + 1) 4 (.bool false) := HS.out.2.2.1.kept (grownBy_setRow _ _ _) (by simp)
      have r3 : StirC w.heap.size T W (W.setRow (w.heap.size + 1) (encS x).toArray) := StirC.of_stir ((Stir.refl (fun k => k = w.heap.size + 1) W).setRow (fun _ => rfl) _) (fun k e => by rw [hT]; exact .inl e)
      have r4 := KeepsOthers.setRow W (w.heap.size + 1) (encS x).toArray _ _ _ HS.out.2.1
      generalize W.setRow (w.heap.size + 1) (encS x).toArray = W2 at r1 r2 r3 r4 ⊢
      have c1 := r2.cell
      have f1 := r2.frozen
      have Hr := Lib.hid (show RowAt (W2.setCell ⟨w.heap.size + 1 + 1, 0, none⟩ (.bool true)) (w.heap.size + 1) x ∧ Boxed (W2.setCell ⟨w.heap.size + 1 + 1, 0, none⟩ (.bool true)) (w.heap.size + 1 + 1) 4 (.bool true) ∧ StirC w.heap.size T W (W2.setCell ⟨w.heap.size + 1 + 1, 0, none⟩ (.bool true)) ∧ KeepsOthers W (W2.setCell ⟨w.heap.size + 1 + 1, 0, none⟩ (.bool true)) from
        ⟨r1.kept (grownBy_setCell' _ _ _) (by simp), r2.set _, r3.setCell (p := ⟨w.heap.size + 1 + 1, 0, none⟩) (by rw [hT]; exact .inr rfl) _, r4.trans (KeepsOthers.setCell _ _ _)⟩)
      clear r1 r2 r3 r4
      simp only [Act.put, List.setIfInBounds_toArray, List.set_cons_zero, List.set_cons_succ]
      gi_wp2
      obtain ⟨q1, q2, q3, q4⟩ := Hr.out
      exact ⟨q4.from _, ⟨x, q1, by rw [List.find?_append, HR.out]; simp [q]⟩, ⟨q2, HS.out.2.2.2.trans q3⟩, rfl⟩
  case done =>
    rintro D ys W hD rfl ⟨⟨v1, v2, v3, hS⟩, hr⟩ hK
    refine HK0.out _ _ ?_
    refine wpIn_seq_k fun K1 hK1 => ?_
    refine wpIn_region_lit ?_
    refine wpListIn_build rfl 26 #[] rfl (encS zeroS).toArray (by kernel_rfl) ?_
    refine wpListIn_store_row rfl 26 (.tmp 2) (.tmp 14) rfl (w.heap.size + 1) (encS zeroS).toArray rfl rfl 26 _ v2 (by kernel_rfl) rfl (encS_one zeroS) ?_
    have r1 : RowAt (W.setRow (w.heap.size + 1) (encS zeroS).toArray) (w.heap.size + 1) zeroS := setRow_heap _ _ _ _ _ _ v2
    have r2 : Boxed (W.setRow (w.heap.size + 1) (encS zeroS).toArray) (w.heap.size + 1 + 1) 4 (.bool false) := v3.kept (grownBy_setRow _ _ _) (by simp)
    have r3 : StirC w.heap.size T W (W.setRow (w.heap.size + 1) (encS zeroS).toArray) := StirC.of_stir ((Stir.refl (fun k => k = w.heap.size + 1) W).setRow (fun _ => rfl) _) (fun k e => by rw [hT]; exact .inl e)
    have r4 := (KeepsOthers.setRow W (w.heap.size + 1) (encS zeroS).toArray _ _ _ v2).same D _ hK rfl
    generalize W.setRow (w.heap.size + 1) (encS zeroS).toArray = W2 at r1 r2 r3 r4 ⊢
    have c1 := r2.cell
    have f1 := r2.frozen
    have hK' : (W2.setCell ⟨w.heap.size + 1 + 1, 0, none⟩ (.bool false)).heap[D]? = some (.deferred (some [])) := (KeepsOthers.setCell W2 ⟨w.heap.size + 1 + 1, 0, none⟩ (.bool false)).same D _ r4 rfl
    have hw : Below w.heap.size w ((W2.setCell ⟨w.heap.size + 1 + 1, 0, none⟩ (.bool false)).putObj D (.deferred none)) :=
      ((((hS.trans r3).setCell (p := ⟨w.heap.size + 1 + 1, 0, none⟩) (by rw [hT]; exact .inr rfl) (.bool false))).trans (stirC_b (T := T) _ D _ (.deferred none) (by omega) hK' rfl)).below Hb.out (by omega) (by rw [hT]; intro k h; omega)
    have q1 : RowAt ((W2.setCell ⟨w.heap.size + 1 + 1, 0, none⟩ (.bool false)).putObj D (.deferred none)) (w.heap.size + 1) zeroS := (r1.kept (grownBy_setCell' _ _ _) (by simp)).kept (grownBy_putObj' _ D _) (by simp; omega)
    have q2 : Boxed ((W2.setCell ⟨w.heap.size + 1 + 1, 0, none⟩ (.bool false)).putObj D (.deferred none)) (w.heap.size + 1 + 1) 4 (.bool false) := (r2.set (.bool false)).kept (grownBy_putObj' _ D _) (by simp; omega)
    simp only [Act.put, List.setIfInBounds_toArray, List.set_cons_zero, List.set_cons_succ]
    clear r1 r2 r3 r4 v1 v2 v3 hS
    gi_wp2
    refine ⟨by simp, .inl ⟨_, _, rfl, run_takeDeferred hK', ?_⟩⟩
    have hff : findP s = none := HF.out.trans hr
    refine ⟨_, results_row_bool rfl _ _ (w.heap.size + 1) (w.heap.size + 1 + 1) zeroS false rfl rfl q1 q2.cell, ?_, hw⟩
    rw [hff]; rfl
  case stop =>
    rintro D c pre W hD hp ⟨⟨x, v2, hf⟩, ⟨v3, hS⟩, rfl⟩ hK
    have hw : Below w.heap.size w (W.putObj D (.deferred none)) := (hS.trans (stirC_b (T := T) _ D _ (.deferred none) (by omega) hK rfl)).below Hb.out (by omega) (by rw [hT]; intro k h; omega)
    have q1 : RowAt (W.putObj D (.deferred none)) (w.heap.size + 1) x := v2.kept (grownBy_putObj' _ D _) (by simp; omega)
    have q2 : Boxed (W.putObj D (.deferred none)) (w.heap.size + 1 + 1) 4 (.bool true) := v3.kept (grownBy_putObj' _ D _) (by simp; omega)
    gi_wp2
    refine ⟨by simp, .inl ⟨_, _, rfl, run_takeDeferred hK, ?_⟩⟩
    have hff : findP s = some x := by
      obtain ⟨rest, hrest⟩ := hp
      rw [HF.out, ← hrest, List.find?_append, hf]; rfl
    refine ⟨_, results_row_bool rfl _ _ (w.heap.size + 1) (w.heap.size + 1 + 1) x true rfl rfl q1 q2.cell, ?_, hw⟩
    rw [hff]; rfl
end Go.Proofs.Ytjdpmjpfhcdcfaa
