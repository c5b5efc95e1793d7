/- What 'May' tells of an item: the loop over its texts. Conditions: bounds on its elements' number. -/
import Derived.Test.YtbmimcpllpgcaaaIe
namespace Go.Proofs.Ytbmimcpllpgcaaa
open Go.RowKit Go.Shelf Go.Cav

attribute [local go_sem] Oper.semAt_some

/-- may an item be? -/
def mayP (x : ItemV) : Prop := shapedP x ∧ 0 ≤ x.exp ∧ x.exp ≤ 9007199254740992 ∧ ∀ t ∈ allTexts x.s x.fs x.ls, t.size ≤ 300

theorem fields_lt {w : World} {v : Value} {zs : List (ByteArray × ByteArray)} (h : FieldsAt w v zs) (k : Nat) (e : v.ownBlock = some k) (hn : zs ≠ []) : k < w.heap.size := by
  obtain ⟨x, l, rfl⟩ := List.exists_cons_of_ne_nil hn
  obtain ⟨a, c, rfl, hc⟩ := fields_slice h
  obtain ⟨ad, rfl, c0, _⟩ := hc 0 x rfl
  cases e
  have := World.block_lt_of_cell? w _ c0
  rwa [add_block] at this
theorem list_lt {w : World} {v : Value} {zs : List ByteArray} (h : ReadsA w 1 v zs.length (zs.map .string)) (k : Nat) (e : v.ownBlock = some k) (hn : zs ≠ []) : k < w.heap.size := by
  obtain ⟨x, l, rfl⟩ := List.exists_cons_of_ne_nil hn
  obtain ⟨a, c, rfl, hc⟩ := list_slice h
  obtain ⟨ad, rfl, c0⟩ := hc 0 x rfl
  cases e
  have := World.block_lt_of_cell? w _ c0
  rwa [add_block] at this

set_option maxRecDepth 100000 in
set_option maxHeartbeats 2000000 in
theorem may_any (w : World) (x : ItemV) (fv lv : Value) (h : ItemAt w x fv lv) :
    Calls Try.prog 9 #[.agg (itemCells x fv lv)] w fun e w' => ∃ b : Bool, e = .returned (.bool b) ∧ (b = true ↔ mayP x) ∧ Below w.heap.size w w' := by
  have bI : ((w.alloc (.cells (itemCells x fv lv) 26)).alloc (.cells #[.bool false] 4)).heap[w.heap.size]? = some (.cells (itemCells x fv lv) 26 (0, 0)) := by
    rw [heap_alloc_old _ _ _ (by simp)]; exact heap_alloc_new w _
  have bR := Boxed.new (w.alloc (.cells (itemCells x fv lv) 26)) 4 (.bool false)
  rw [World.size_alloc] at bR
  have hb0 : Below w.heap.size w ((w.alloc (.cells (itemCells x fv lv) 26)).alloc (.cells #[.bool false] 4)) := ((Below.refl w.heap.size w).alloc (Nat.le_refl _) _).alloc (by simp) _
  have hz0 : ((w.alloc (.cells (itemCells x fv lv) 26)).alloc (.cells #[.bool false] 4)).heap.size = w.heap.size + 2 := by simp
  obtain ⟨hF, hL, hfit⟩ := h
  have sh := shaped_any _ x fv lv ⟨hF.below hb0, hL.below hb0, hfit⟩
  unfold itemCells at *
  refine (callsIn_wide (n := 6)).1 ?_
  have h1 : 1 ≤ 6 := by omega
  refine callsIn_of_wp_marks Try.func9 rfl trivial ?_ rfl
  simp only [Try.ntmps9, List.size_toArray, List.length_cons, List.length_nil, Nat.reduceAdd, Nat.reduceSub, Array.replicate_succ, Array.replicate_zero, List.push_toArray, List.append_toArray, List.nil_append, List.cons_append]
  gi_wp2_with fail
  refine ⟨trivial, (callsIn_wide.2 sh).mono ?_⟩
  rintro e w1 ⟨b, rfl, hb, hw1⟩
  have bI1 := (hw1.block w.heap.size (by omega)).trans bI
  have bR1 : Boxed w1 (w.heap.size + 1) 4 (.bool false) := (hw1.block (w.heap.size + 1) (by omega)).trans bR
  have hb1 : Below w.heap.size w w1 := hb0.trans (hw1.mono (by omega))
  have hz1 : w.heap.size + 2 ≤ w1.heap.size := by have := hw1.size; omega
  have e4 : w1.cell? ⟨w.heap.size, 4, none⟩ = some (.int .i64 x.exp) := by unfold World.cell?; rw [bI1]; rfl
  have e0 : w1.cell? ⟨w.heap.size, 0, none⟩ = some (.int .i64 x.kind) := by unfold World.cell?; rw [bI1]; rfl
  have e1 : w1.cell? ⟨w.heap.size, 1, none⟩ = some (.string x.s) := by unfold World.cell?; rw [bI1]; rfl
  have e2 : w1.cell? ⟨w.heap.size, 2, none⟩ = some fv := by unfold World.cell?; rw [bI1]; rfl
  have e3 : w1.cell? ⟨w.heap.size, 3, none⟩ = some lv := by unfold World.cell?; rw [bI1]; rfl
  have cR := bR1.cell
  have fR := bR1.frozen
  have HB := Lib.hid hb
  have Hb1 := Lib.hid hb1
  clear sh hb bI bR hb0 hz0 hw1 hb1
  have bS : Boxed (w1.setCell ⟨w.heap.size + 1, 0, none⟩ (.bool false)) (w.heap.size + 1) 4 (.bool false) := bR1.set _
  have hbS : Hid (Below w.heap.size w (w1.setCell ⟨w.heap.size + 1, 0, none⟩ (.bool false))) :=
    Hb1.out.trans (((Stir.refl (fun k => k = w.heap.size + 1) w1).setCell (fun _ => rfl) _).below (by omega) (fun k e => by omega))
  have cS := Lib.hid bS.cell
  clear bS
  cases b with
  | false =>
    gi_wp2_with fail
    exact ⟨_, results_bool rfl _ _ (w.heap.size + 1) false rfl cS.out, false, rfl, ⟨fun h => (by cases h), fun h => absurd (HB.out.2 h.1) (by simp)⟩, hbS.out⟩
  | true =>
    by_cases x0 : x.exp < 0
    · gi_wp2_with fail
      exact ⟨_, results_bool rfl _ _ (w.heap.size + 1) false rfl cS.out, false, rfl, ⟨fun h => (by cases h), fun h => absurd h.2.1 (by omega)⟩, hbS.out⟩
    · by_cases x1 : 9007199254740992 < x.exp
      · gi_wp2_with fail
        exact ⟨_, results_bool rfl _ _ (w.heap.size + 1) false rfl cS.out, false, rfl, ⟨fun h => (by cases h), fun h => absurd h.2.2.1 (by omega)⟩, hbS.out⟩
      · have x0' : decide (x.exp < 0) = false := by simp; omega
        have x1' : decide (9007199254740992 < x.exp) = false := by simp; omega
        gi_wp2_with fail
        refine ⟨trivial, (callsIn_wide.2 (texts_any _ _ _ _ _ _)).mono ?_⟩
        rintro e w2 ⟨rfl, hw2⟩
        gi_wp2_with fail
        obtain ⟨w2, e2'⟩ : ∃ w2, w1.alloc (.cells #[.int .i64 x.kind, .string x.s, fv, lv, .int .i64 x.exp] 26) = w2 := ⟨_, rfl⟩
        have bT : w2.heap[w1.heap.size]? = some (.cells #[.int .i64 x.kind, .string x.s, fv, lv, .int .i64 x.exp] 26 (0, 0)) := by rw [← e2']; exact heap_alloc_new _ _
        have bR2 : Boxed w2 (w.heap.size + 1) 4 (.bool false) := by rw [← e2']; exact bR1.alloc _
        have hz2 : w2.heap.size = w1.heap.size + 1 := by rw [← e2']; simp
        have hb2 : Below w.heap.size w w2 := by rw [← e2']; exact Hb1.out.alloc (by omega) _
        have hF2 := hF.below hb2
        have hL2 := hL.below hb2
        obtain ⟨T, hT⟩ : ∃ T : Nat → Prop, T = (fun k => k = w.heap.size + 1) := ⟨_, rfl⟩
        have hit := texts_stops Fence.wide 5 trivial rfl (by omega) w1.heap.size w.heap.size T x.s fv lv x.fs x.ls hfit.f hfit.l w2 (by omega) (by rw [hT]; omega) (by rw [hT]; intro k hk; omega) (fun k e hn => by rw [hT]; have := fields_lt hF k e hn; omega) (fun k e hn => by rw [hT]; have := list_lt hL k e hn; omega)
          (by unfold World.cell?; rw [bT]; rfl) (by unfold World.cell?; rw [bT]; rfl) (by unfold World.cell?; rw [bT]; rfl) hF2 hL2
        have hmy : Hid (mayP x ↔ ∀ t ∈ allTexts x.s x.fs x.ls, t.size ≤ 300) := ⟨fun h => h.2.2.2, fun h => ⟨HB.out.1 (by trivial), by omega, by omega, h⟩⟩
        rw [e2']
        clear e2' bI1 bR1 e0 e1 e2 e3 e4 cR fR cS hbS hF hL hF2 hL2 bT
        refine wpIn_rangeFunc_ownG rfl h1 (gf := 36) (lb := #[.pointer (some ⟨w1.heap.size, 0, none⟩)]) rfl trivial (enters_of Try.func36 (by kernel_rfl) rfl) hit
          stirC_t (fun W l o o' a b c _ => stirC_b W l o o' (by omega) b c) (Below.refl _ _) (fun _ => rfl)
          (fun pre W => (Boxed W (w.heap.size + 1) 4 (.bool false) ∧ StirC w.heap.size T w2 W) ∧ ∀ t ∈ pre, t.size ≤ 300)
          (fun c pre W => (Boxed W (w.heap.size + 1) 4 (.bool false) ∧ StirC w.heap.size T w2 W) ∧ (c = .ret ∧ ∃ t ∈ pre, ¬ t.size ≤ 300))
          (OwnFrom.and (OwnFrom.and (Own.from (boxed_own _ _ _) _) (ownFrom_stirC w2 (by omega))) (ownFrom_pure' _))
          (fun c => OwnFrom.and (OwnFrom.and (Own.from (boxed_own _ _ _) _) (ownFrom_stirC w2 (by omega))) (ownFrom_pure' _))
          ⟨⟨bR2, StirC.refl _ _ _⟩, fun t h => by cases h⟩
          (fun t => { tmps := #[.agg #[.int .i64 x.kind, .string x.s, fv, lv, .int .i64 x.exp], .pointer (some ⟨w.heap.size, 0, none⟩), .pointer (some ⟨w.heap.size + 1, 0, none⟩), .string t, .agg #[.int .i64 x.kind, .string x.s, fv, lv, .int .i64 x.exp], .bool true, .bool false, .bool false, .pointer (some ⟨w.heap.size, 4, none⟩), .int .i64 x.exp, .bool false, .bool false, .bool false, .pointer (some ⟨w.heap.size, 4, none⟩), .int .i64 x.exp, .bool false, .bool false, .agg #[.int .i64 x.kind, .string x.s, fv, lv, .int .i64 x.exp], .func (.func 36) #[] #[.pointer (some ⟨w1.heap.size, 0, none⟩)], .string t, undef, undef, undef], defers := [] }) ?assign ?body ?done ?stop
        case assign =>
          intro l t W K hK
          gi_wp2
          exact hK
        case body =>
          rintro l pre t W ⟨⟨v1, hS⟩, hr⟩ hlen
          have c1 := v1.cell
          have f1 := v1.frozen
          by_cases ht : (t.size : Int) ≤ 300
          · gi_wp2
            exact ⟨(KeepsOthers.refl W).from _, StirC.refl _ _ _, ⟨v1, hS⟩, fun u hu => by rcases List.mem_append.1 hu with h | h; exact hr u h; (rw [List.mem_singleton.1 h]; omega)⟩
          · have Hres := Lib.hid (show Boxed (W.setCell ⟨w.heap.size + 1, 0, none⟩ (.bool false)) (w.heap.size + 1) 4 (.bool false) ∧ StirC w.heap.size T W (W.setCell ⟨w.heap.size + 1, 0, none⟩ (.bool false)) ∧ KeepsOthers W (W.setCell ⟨w.heap.size + 1, 0, none⟩ (.bool false)) from
              ⟨v1.set _, (StirC.refl _ T W).setCell (p := ⟨w.heap.size + 1, 0, none⟩) (by rw [hT]) _, KeepsOthers.setCell _ _ _⟩)
            clear hT
            gi_wp2
            obtain ⟨b1, b2, b3⟩ := Hres.out
            exact ⟨b3.from _, ⟨b1, hS.trans b2⟩, rfl, t, by simp, by omega⟩
        case done =>
          rintro D ys W hD rfl ⟨⟨v1, hS⟩, hr⟩ hK
          have c1 := v1.cell
          have f1 := v1.frozen
          have hK' : (W.setCell ⟨w.heap.size + 1, 0, none⟩ (.bool true)).heap[D]? = some (.deferred (some [])) := ((KeepsOthers.setCell W ⟨w.heap.size + 1, 0, none⟩ (.bool true)).same D _ hK rfl)
          have hw : Below w.heap.size w ((W.setCell ⟨w.heap.size + 1, 0, none⟩ (.bool true)).putObj D (.deferred none)) :=
            ((hS.trans ((StirC.refl w.heap.size T W).setCell (p := ⟨w.heap.size + 1, 0, none⟩) (by rw [hT]) (.bool true))).trans (stirC_b (T := T) _ D _ (.deferred none) (by omega) hK' rfl)).below hb2 (by omega) (by rw [hT]; intro k h; omega)
          have b1 : Boxed ((W.setCell ⟨w.heap.size + 1, 0, none⟩ (.bool true)).putObj D (.deferred none)) (w.heap.size + 1) 4 (.bool true) := (v1.set (.bool true)).kept (grownBy_putObj' _ D _) (by simp; omega)
          gi_wp2
          refine ⟨by simp, .inl ⟨_, _, rfl, run_takeDeferred hK', ?_⟩⟩
          exact ⟨_, results_bool rfl _ _ (w.heap.size + 1) true rfl b1.cell, true, rfl, ⟨fun _ => hmy.out.2 hr, fun _ => rfl⟩, hw⟩
        case stop =>
          rintro D c pre W hD hp ⟨⟨v1, hS⟩, rfl, t, ht, hn⟩ hK
          have hw : Below w.heap.size w (W.putObj D (.deferred none)) := (hS.trans (stirC_b (T := T) _ D _ (.deferred none) (by omega) hK rfl)).below hb2 (by omega) (by rw [hT]; intro k h; omega)
          have b1 : Boxed (W.putObj D (.deferred none)) (w.heap.size + 1) 4 (.bool false) := v1.kept (grownBy_putObj' _ D _) (by simp; omega)
          gi_wp2
          refine ⟨by simp, .inl ⟨_, _, rfl, run_takeDeferred hK, ?_⟩⟩
          exact ⟨_, results_bool rfl _ _ (w.heap.size + 1) false rfl b1.cell, false, rfl, ⟨fun h => (by cases h), fun h => absurd (hmy.out.1 h t (hp.subset ht)) hn⟩, hw⟩

end Go.Proofs.Ytbmimcpllpgcaaa
