/- What Check hands back. Conditions: bounds on the words. -/
import Derived.Test.YtjdpmjpfhcdcfaaCm
namespace Go.Proofs.Ytjdpmjpfhcdcfaa
open Go.RowKit Go.Shelf Go.Cav
attribute [local go_sem] Oper.semAt_some

/-- what Check answers -/
def checkP (ws : List ByteArray) : Option SpecV :=
  match ws with
  | [] => none
  | x :: _ => match findP x with
    | none => none
    | some s => if countedP s ws.length = true ∧ (keysL s ws).all (fun k => decide (k.size ≤ 40)) = true then some s else none

theorem WordsAt.lower {w w' : World} {a : Option Addr} {ws : List ByteArray} (h : WordsAt w a ws) (hb : Below w.heap.size w w') : WordsAt w' a ws := h.below hb
theorem countedP_least {s : SpecV} {n : Nat} (h : countedP s n = true) : s.least ≤ (n : Int) := by
  unfold countedP at h
  split at h
  · cases h
  · split at h
    · cases h
    · simp only [Bool.and_eq_true, decide_eq_true_eq] at h; exact h.1.2
set_option maxRecDepth 100000 in
set_option maxHeartbeats 2000000 in
theorem check_any (ws : List ByteArray) (a : Option Addr) (c : Nat) (w : World) (hws : WordsAt w a ws) (hl : ws.length ≤ 1000000000000) (h0 : ∀ x, ws[0]? = some x → x.size ≤ 9000000000000000000) :
    Calls Try.prog 9 #[.slice a ws.length c] w fun e w' => e = .returned (.tuple #[.agg (encS ((checkP ws).getD zeroS)).toArray, .bool (checkP ws).isSome]) ∧ Below w.heap.size w w' := by
  have bR : RowAt ((w.alloc (.cells (encS zeroS).toArray 26)).alloc (.cells #[.bool false] 4)) w.heap.size zeroS := (Below.heap_alloc _ _ _ (by simp)).trans (heap_alloc_new w _)
  have bB := Boxed.new (w.alloc (.cells (encS zeroS).toArray 26)) 4 (.bool false)
  rw [World.size_alloc] at bB
  have hb0 : Below w.heap.size w ((w.alloc (.cells (encS zeroS).toArray 26)).alloc (.cells #[.bool false] 4)) := ((Below.refl _ w).alloc (Nat.le_refl _) _).alloc (by simp) _
  have hz0 : ((w.alloc (.cells (encS zeroS).toArray 26)).alloc (.cells #[.bool false] 4)).heap.size = w.heap.size + 2 := by simp
  have hzs : (encS zeroS).toArray = #[.string ⟨#[]⟩, .int .i64 0, .int .i64 0, .int .i64 0, .int .i64 0, .int .i64 0, .bool false] := rfl
  rw [hzs] at bR bB hb0 hz0
  have fin : ∀ wX w', Below w.heap.size w wX → Stir (fun k => k = w.heap.size ∨ k = w.heap.size + 1) wX w' → Below w.heap.size w w' := fun wX w' h k =>
    ((Stir.of_below h (fun k => w.heap.size ≤ k)).trans k (fun i _ e => by rcases e with e | e <;> omega)).below (Nat.le_refl _) (fun k h => h)
  refine (callsIn_wide (n := 6)).1 ?_
  have h1 : 1 ≤ 6 := by omega
  refine callsIn_of_wp_marks Try.func9 rfl trivial ?_ rfl
  simp only [Try.ntmps9, List.size_toArray, List.length_cons, List.length_nil, Nat.reduceAdd, Nat.reduceSub, Array.replicate_succ, Array.replicate_zero, List.push_toArray, List.append_toArray, List.nil_append, List.cons_append]
  refine wpIn_seq_k fun K0 hK0 => ?_
  have HK0 := Lib.hid hK0
  clear hK0
  gi_wp2
  refine HK0.out _ _ ?_
  clear HK0 K0
  generalize ((w.alloc (.cells #[.string ⟨#[]⟩, .int .i64 0, .int .i64 0, .int .i64 0, .int .i64 0, .int .i64 0, .bool false] 26)).alloc (.cells #[.bool false] 4)) = w0 at bR bB hb0 hz0 ⊢
  refine wpIn_seq_k fun K1 hK1 => ?_
  have HK1 := Lib.hid hK1
  clear hK1
  refine wpIn_seq_k fun K2 hK2 => ?_
  have HK2 := Lib.hid hK2
  clear hK2
  gi_wp2
  refine HK2.out _ _ ?_
  clear HK2 K2
  cases ws with
  | nil =>
    refine wpIn_cond_true rfl ?_
    refine false_exit 10 _ zeroS false w.heap.size (w.heap.size + 1) _ _ _ (by simp) rfl rfl bR bB (by omega) rfl rfl rfl rfl rfl rfl rfl rfl rfl fun w' q1 q2 q3 q4 => ?_
    exact ⟨_, results_row_bool rfl _ _ w.heap.size (w.heap.size + 1) zeroS false rfl rfl q1 q2.cell, rfl, fin _ _ hb0 q3⟩
  | cons x ws =>
    refine wpIn_cond_false rfl ?_
    refine wpIn_skip ?_
    refine HK1.out _ _ ?_
    clear HK1 K1
    obtain ⟨ad, rfl, hx⟩ := hws 0 x rfl
    have hx0 : w0.cell? ad = some (.string x) := (Stir.of_below hb0 (fun _ => False)).cell hx (fun e => e)
    have hfi := find_any x w0 (h0 x rfl)
    have hck : checkP (x :: ws) = match findP x with | none => none | some s => if countedP s (ws.length + 1) = true ∧ (keysL s (x :: ws)).all (fun k => decide (k.size ≤ 40)) = true then some s else none := rfl
    have HC := Lib.hid hck
    clear hck
    have p0 : (0 : Int) < ((ws.length + 1 : Nat) : Int) := by omega
    refine wpIn_seq_k fun K3 hK3 => ?_
    have HK3 := Lib.hid hK3
    clear hK3
    gi_wp2_with fail
    refine ⟨trivial, (callsIn_wide.2 hfi).mono ?_⟩
    rintro e w1 ⟨rfl, hw1⟩
    have bR1 : RowAt w1 w.heap.size zeroS := (hw1.block _ bR.lt).trans bR
    have bB1 : Boxed w1 (w.heap.size + 1) 4 (.bool false) := (hw1.block _ bB.lt).trans bB
    have hb1 : Below w.heap.size w w1 := hb0.trans (hw1.mono (by omega))
    have hz1 : w.heap.size + 2 ≤ w1.heap.size := by have := hw1.size; omega
    clear hw1 hfi hx0 bR bB hb0 hz0
    cases hF : findP x with
    | none =>
      rw [hF] at HC
      have hg : w1.grownBy (w1.alloc (.cells (encS zeroS).toArray 26)) none := World.grownBy_alloc w1 _ none
      have bR2 := bR1.kept hg (by simp)
      have bB2 := bB1.alloc (.cells (encS zeroS).toArray 26)
      have hb2 := hb1.alloc (by omega) (.cells (encS zeroS).toArray 26)
      rw [hzs] at bR2 bB2 hb2
      simp only [Option.getD_none, Option.isSome_none, hzs]
      gi_wp2
      refine HK3.out _ _ ?_
      clear HK3 K3
      refine wpIn_seq_k fun K4 hK4 => ?_
      have HK4 := Lib.hid hK4
      clear hK4
      refine wpIn_seq_k fun K5 hK5 => ?_
      have HK5 := Lib.hid hK5
      clear hK5
      gi_wp2
      refine ⟨trivial, ?_⟩
      gi_wp2
      refine HK5.out _ _ ?_
      clear HK5 K5
      refine wpIn_cond_true rfl ?_
      refine false_exit 27 _ zeroS false w.heap.size (w.heap.size + 1) _ _ _ (by simp) rfl rfl bR2 bB2 (by omega) rfl rfl rfl rfl rfl rfl rfl rfl rfl fun w' q1 q2 q3 q4 => ?_
      refine ⟨_, results_row_bool rfl _ _ w.heap.size (w.heap.size + 1) zeroS false rfl rfl q1 q2.cell, ?_, fin _ _ hb2 q3⟩
      rw [HC.out]; rfl
    | some s =>
      rw [hF] at HC
      obtain ⟨s0, s1, s2, s3, s4, s5, s6⟩ := s
      have hg : w1.grownBy (w1.alloc (.cells (encS ⟨s0, s1, s2, s3, s4, s5, s6⟩).toArray 26)) none := World.grownBy_alloc w1 _ none
      have bR2 := bR1.kept hg (by simp)
      have bB2 := bB1.alloc (.cells (encS ⟨s0, s1, s2, s3, s4, s5, s6⟩).toArray 26)
      have hb2 := hb1.alloc (by omega) (.cells (encS ⟨s0, s1, s2, s3, s4, s5, s6⟩).toArray 26)
      have bS2 : RowAt (w1.alloc (.cells (encS ⟨s0, s1, s2, s3, s4, s5, s6⟩).toArray 26)) w1.heap.size ⟨s0, s1, s2, s3, s4, s5, s6⟩ := heap_alloc_new w1 _
      have hz2 : (w1.alloc (.cells (encS ⟨s0, s1, s2, s3, s4, s5, s6⟩).toArray 26)).heap.size = w1.heap.size + 1 := by simp
      simp only [Option.getD_some, Option.isSome_some]
      simp only [encS] at bR2 bB2 hb2 bS2 hz2 ⊢
      gi_wp2
      refine HK3.out _ _ ?_
      clear HK3 K3 hg
      generalize w1.alloc (.cells [Value.string s0, Value.int IntKind.i64 s1, Value.int IntKind.i64 s2, Value.int IntKind.i64 s3, Value.int IntKind.i64 s4, Value.int IntKind.i64 s5, Value.bool s6].toArray 26) = w2 at bR2 bB2 hb2 bS2 hz2 ⊢
      have hcnt := counted_any ⟨s0, s1, s2, s3, s4, s5, s6⟩ (x :: ws).length w2
      simp only [encS] at hcnt
      rw [show (((x :: ws).length : Nat) : Int) = (ws.length : Int) + 1 from by simp] at hcnt
      obtain ⟨c0, c1, c2, c3, c4, c5, c6⟩ := bS2.cells
      refine wpIn_seq_k fun K4 hK4 => ?_
      have HK4 := Lib.hid hK4
      clear hK4
      refine wpIn_seq_k fun K5 hK5 => ?_
      have HK5 := Lib.hid hK5
      clear hK5
      gi_wp2_with fail
      refine ⟨trivial, (callsIn_wide.2 hcnt).mono ?_⟩
      rintro e w3 ⟨rfl, hw3⟩
      clear hcnt
      have bR3 : RowAt w3 w.heap.size zeroS := (hw3.block _ bR2.lt).trans bR2
      have bB3 : Boxed w3 (w.heap.size + 1) 4 (.bool false) := (hw3.block _ bB2.lt).trans bB2
      have bS3 : RowAt w3 w1.heap.size ⟨s0, s1, s2, s3, s4, s5, s6⟩ := (hw3.block _ bS2.lt).trans bS2
      have hb3 : Below w.heap.size w w3 := hb2.trans (hw3.mono (by omega))
      have hz3 : w1.heap.size + 1 ≤ w3.heap.size := by have := hw3.size; omega
      clear hw3 bR2 bB2 bS2 hb2 hz2 c0 c1 c2 c3 c4 c5 c6 bR1 bB1 hb1
      cases hq : countedP ⟨s0, s1, s2, s3, s4, s5, s6⟩ (x :: ws).length with
      | false =>
        gi_wp2
        refine HK5.out _ _ ?_
        clear HK5 K5
        refine wpIn_cond_true rfl ?_
        refine false_exit 27 _ zeroS false w.heap.size (w.heap.size + 1) _ _ _ (by simp) rfl rfl bR3 bB3 (by omega) rfl rfl rfl rfl rfl rfl rfl rfl rfl fun w' q1 q2 q3 q4 => ?_
        refine ⟨_, results_row_bool rfl _ _ w.heap.size (w.heap.size + 1) zeroS false rfl rfl q1 q2.cell, ?_, fin _ _ hb3 q3⟩
        rw [HC.out, if_neg (by simp only [List.length_cons] at hq; simp [hq])]; rfl
      | true =>
        gi_wp2
        refine HK5.out _ _ ?_
        clear HK5 K5
        refine wpIn_cond_false rfl ?_
        refine wpIn_skip ?_
        refine HK4.out _ _ ?_
        clear HK4 K4
        obtain ⟨c0, c1, c2, c3, c4, c5, c6⟩ := bS3.cells
        refine wpIn_seq_k fun K6 hK6 => ?_
        have HK6 := Lib.hid hK6
        clear hK6
        have hkey := keys_any ⟨s0, s1, s2, s3, s4, s5, s6⟩ (some ad) (ws.length + 1) c w3
        simp only [encS] at hkey
        gi_wp2_with fail
        refine ⟨trivial, (callsIn_wide.2 hkey).mono ?_⟩
        rintro e w4 ⟨rfl, hw4⟩
        clear hkey
        have hS4 : Stir (fun _ => False) w3 w4 := by rw [hw4]; exact ((Stir.refl _ w3).alloc _).alloc _
        have bK4 : RowAt w4 w3.heap.size ⟨s0, s1, s2, s3, s4, s5, s6⟩ := by rw [hw4]; exact (Below.heap_alloc _ _ _ (by simp)).trans (heap_alloc_new w3 _)
        have bW4 : Boxed w4 (w3.heap.size + 1) 22 (.slice (some ad) (x :: ws).length c) := by
          rw [hw4]; have := Boxed.new (w3.alloc (.cells [Value.string s0, Value.int IntKind.i64 s1, Value.int IntKind.i64 s2, Value.int IntKind.i64 s3, Value.int IntKind.i64 s4, Value.int IntKind.i64 s5, Value.bool s6].toArray 26)) 22 (.slice (some ad) (ws.length + 1) c)
          rw [World.size_alloc] at this; exact this
        have bR4 : RowAt w4 w.heap.size zeroS := (hS4.block _ bR3.lt (fun e => e)).trans bR3
        have bB4 : Boxed w4 (w.heap.size + 1) 4 (.bool false) := (hS4.block _ bB3.lt (fun e => e)).trans bB3
        have bS4 : RowAt w4 w1.heap.size ⟨s0, s1, s2, s3, s4, s5, s6⟩ := (hS4.block _ bS3.lt (fun e => e)).trans bS3
        have hb4 : Below w.heap.size w w4 := hb3.trans (hS4.below (by omega) (fun k e => e.elim))
        have hz4 : w4.heap.size = w3.heap.size + 2 := by rw [hw4]; simp
        have hmem : (⟨s0, s1, s2, s3, s4, s5, s6⟩ : SpecV) ∈ specL := List.mem_of_find?_eq_some hF
        have hleast : s1 ≤ ((x :: ws).length : Int) := countedP_least hq
        obtain ⟨zs, hzsK⟩ : ∃ zs, zs = keysL ⟨s0, s1, s2, s3, s4, s5, s6⟩ (x :: ws) := ⟨_, rfl⟩
        have hKA := keysAre ⟨s0, s1, s2, s3, s4, s5, s6⟩ (x :: ws) hmem hl hleast
        have hCk : checkP (x :: ws) = if zs.all (fun k => decide (k.size ≤ 40)) = true then some ⟨s0, s1, s2, s3, s4, s5, s6⟩ else none := by
          rw [HC.out, hzsK]; simp only [List.length_cons] at hq; rw [hq]; simp
        have HCk := Lib.hid hCk
        rw [← hzsK] at hKA
        obtain ⟨T, hT⟩ : ∃ T : Nat → Prop, T = (fun k => k = w.heap.size ∨ k = w.heap.size + 1) := ⟨_, rfl⟩
        have hadb : ad.block < w.heap.size := World.block_lt_of_cell? w _ hx
        have hit := keys_stops 5 (by omega) w.heap.size T ⟨s0, s1, s2, s3, s4, s5, s6⟩ (x :: ws) zs _ _ hKA w3.heap.size (w3.heap.size + 1) (some ad) c w4 bK4 bW4 (hws.lower hb4) (by rw [hT]; intro k hk; refine ⟨by omega, by omega, fun ad' e => ?_⟩; cases e; omega)
        clear bR3 bB3 bS3 hb3 bK4 bW4 hw4 hS4 c0 c1 c2 c3 c4 c5 c6 hws hF hq hKA hCk HC hmem hleast hx p0 hzsK
        gi_wp2
        refine wpIn_rangeFunc_ownG rfl h1 (gf := 28) (lb := #[.pointer (some ⟨w3.heap.size, 0, none⟩), .pointer (some ⟨w3.heap.size + 1, 0, none⟩)]) rfl trivial (enters_of Try.func28 (by kernel_rfl) rfl) hit
          stirC_t (fun W l o o' a b c _ => stirC_b W l o o' (by omega) b c) (Below.refl _ _) (fun _ => rfl)
          (fun pre W => (RowAt W w.heap.size zeroS ∧ Boxed W (w.heap.size + 1) 4 (.bool false) ∧ RowAt W w1.heap.size ⟨s0, s1, s2, s3, s4, s5, s6⟩ ∧ StirC w.heap.size T w4 W) ∧ pre.all (fun k => decide (k.size ≤ 40)) = true)
          (fun c pre W => (RowAt W w.heap.size zeroS ∧ Boxed W (w.heap.size + 1) 4 (.bool false) ∧ StirC w.heap.size T w4 W) ∧ (c = .ret ∧ pre.all (fun k => decide (k.size ≤ 40)) = false))
          (OwnFrom.and (OwnFrom.and (Own.from (rowAt_own _ _) _) (OwnFrom.and (Own.from (boxed_own _ _ _) _) (OwnFrom.and (Own.from (rowAt_own _ _) _) (ownFrom_stirC w4 (by omega))))) (ownFrom_pure' _))
          (fun c => OwnFrom.and (OwnFrom.and (Own.from (rowAt_own _ _) _) (OwnFrom.and (Own.from (boxed_own _ _ _) _) (ownFrom_stirC w4 (by omega)))) (ownFrom_pure' _))
          ⟨⟨bR4, bB4, bS4, StirC.refl _ _ _⟩, rfl⟩
          (fun k => { tmps := #[Value.slice (some ad) (ws.length + 1) c, undef, Value.pointer (some { block := w.heap.size, off := 0 }), Value.pointer (some { block := w.heap.size + 1, off := 0 }), Value.pointer (some { block := w1.heap.size, off := 0 }), Value.bool true, .string k, Value.slice (some ad) (ws.length + 1) c, Value.int IntKind.i64 (↑ws.length + 1), Value.bool (↑ws.length + 1 == 0), undef, Value.tuple #[Value.agg #[Value.string s0, Value.int IntKind.i64 s1, Value.int IntKind.i64 s2, Value.int IntKind.i64 s3, Value.int IntKind.i64 s4, Value.int IntKind.i64 s5, Value.bool s6], Value.bool true], Value.slice (some ad) (ws.length + 1) c, Value.pointer (some ad), Value.string x, Value.tuple #[Value.agg #[Value.string s0, Value.int IntKind.i64 s1, Value.int IntKind.i64 s2, Value.int IntKind.i64 s3, Value.int IntKind.i64 s4, Value.int IntKind.i64 s5, Value.bool s6], Value.bool true], Value.agg #[Value.string s0, Value.int IntKind.i64 s1, Value.int IntKind.i64 s2, Value.int IntKind.i64 s3, Value.int IntKind.i64 s4, Value.int IntKind.i64 s5, Value.bool s6], Value.bool true, Value.bool true, Value.bool false, Value.bool false, Value.agg #[Value.string s0, Value.int IntKind.i64 s1, Value.int IntKind.i64 s2, Value.int IntKind.i64 s3, Value.int IntKind.i64 s4, Value.int IntKind.i64 s5, Value.bool s6], Value.slice (some ad) (ws.length + 1) c, Value.int IntKind.i64 (↑ws.length + 1), Value.bool true, Value.bool false, Value.bool false, undef, Value.agg #[Value.string s0, Value.int IntKind.i64 s1, Value.int IntKind.i64 s2, Value.int IntKind.i64 s3, Value.int IntKind.i64 s4, Value.int IntKind.i64 s5, Value.bool s6], Value.slice (some ad) (ws.length + 1) c, .func (.func 28) #[] #[.pointer (some ⟨w3.heap.size, 0, none⟩), .pointer (some ⟨w3.heap.size + 1, 0, none⟩)], .string k, undef, undef, undef, undef, undef], defers := [] }) ?assign ?body ?done ?stop
        case assign =>
          intro l x W K hK
          gi_wp2
          exact hK
        case body =>
          rintro l pre k W ⟨⟨v1, v2, v3, hS⟩, hr⟩ hlen
          have HS := Lib.hid (show RowAt W w.heap.size zeroS ∧ Boxed W (w.heap.size + 1) 4 (.bool false) ∧ RowAt W w1.heap.size ⟨s0, s1, s2, s3, s4, s5, s6⟩ ∧ StirC w.heap.size T w4 W from ⟨v1, v2, v3, hS⟩)
          have HR := Lib.hid hr
          clear v1 v2 v3 hS hr
          refine wpIn_block ?_
          refine wpIn_seq_k fun K hK => ?_
          by_cases hk : (k.size : Int) ≤ 40
          · gi_wp2
            exact ⟨KeepsFrom.refl _ _, StirC.refl _ _ _, HS.out, by rw [List.all_append, HR.out]; simp; omega⟩
          · have hk' : (40 : Int) < (k.size : Int) := by omega
            have HK := Lib.hid hK
            clear hK
            gi_wp2
            refine HK.out _ _ ?_
            refine wpIn_cond_true (by simp [Act.eval, hk']) ?_
            refine false_exit 35 _ zeroS false w.heap.size (w.heap.size + 1) _ _ _ (by simp) rfl rfl HS.out.1 HS.out.2.1 (by omega) rfl rfl rfl rfl rfl rfl rfl rfl rfl fun w' q1 q2 q3 q4 => ?_
            refine ⟨q4.from _, ⟨q1, q2, HS.out.2.2.2.trans (StirC.of_stir q3 (fun i e => by rw [hT]; exact e))⟩, rfl, ?_⟩
            rw [List.all_append]; simp; omega
        case done =>
          rintro D ys W hD rfl ⟨⟨v1, v2, v3, hS⟩, hr⟩ hK
          refine HK6.out _ _ ?_
          refine wpIn_seq_k fun K8 hK8 => ?_
          refine wpIn_region_lit ?_
          refine wpListIn_load_row rfl 26 (.tmp 4) rfl w1.heap.size rfl 26 _ (0, 0) _ v3 Try.underlying26 rfl (by kernel_rfl) ?_
          refine stores_in (.tmp 36) ⟨s0, s1, s2, s3, s4, s5, s6⟩ zeroS true false w.heap.size (w.heap.size + 1) rfl rfl rfl v1 v2 (by omega) _ _ rfl rfl rfl rfl rfl rfl fun w' q1 q2 q3 q4 => ?_
          refine hK8 _ _ ?_
          have hKD := q4.same D _ hK rfl
          have hw : Below w.heap.size w (w'.putObj D (.deferred none)) :=
            ((hS.trans (StirC.of_stir q3 (fun i e => by rw [hT]; exact e))).trans (stirC_b (T := T) _ D _ (.deferred none) (by omega) hKD rfl)).below hb4 (by omega) (by rw [hT]; intro k h; omega)
          have r1 : RowAt (w'.putObj D (.deferred none)) w.heap.size ⟨s0, s1, s2, s3, s4, s5, s6⟩ := q1.kept (grownBy_putObj' _ D _) (by simp; omega)
          have r2 : Boxed (w'.putObj D (.deferred none)) (w.heap.size + 1) 4 (.bool true) := q2.kept (grownBy_putObj' _ D _) (by simp; omega)
          refine wpIn_ret ?_
          refine ⟨by simp [Act.put], .inl ⟨_, _, rfl, run_takeDeferred hKD, ?_⟩⟩
          refine ⟨_, results_row_bool rfl _ _ w.heap.size (w.heap.size + 1) ⟨s0, s1, s2, s3, s4, s5, s6⟩ true rfl rfl r1 r2.cell, ?_, hw⟩
          rw [HCk.out, hr]; rfl
        case stop =>
          rintro D c pre W hD hp ⟨⟨v1, v2, hS⟩, rfl, hr⟩ hK
          have hw : Below w.heap.size w (W.putObj D (.deferred none)) := (hS.trans (stirC_b (T := T) _ D _ (.deferred none) (by omega) hK rfl)).below hb4 (by omega) (by rw [hT]; intro k h; omega)
          have r1 : RowAt (W.putObj D (.deferred none)) w.heap.size zeroS := v1.kept (grownBy_putObj' _ D _) (by simp; omega)
          have r2 : Boxed (W.putObj D (.deferred none)) (w.heap.size + 1) 4 (.bool false) := v2.kept (grownBy_putObj' _ D _) (by simp; omega)
          gi_wp2
          refine ⟨by simp, .inl ⟨_, _, rfl, run_takeDeferred hK, ?_⟩⟩
          refine ⟨_, results_row_bool rfl _ _ w.heap.size (w.heap.size + 1) zeroS false rfl rfl r1 r2.cell, ?_, hw⟩
          have hall : zs.all (fun k => decide (k.size ≤ 40)) = false := by
            obtain ⟨rest, hrest⟩ := hp
            rw [← hrest, List.all_append, hr]; rfl
          rw [HCk.out, hall]; rfl
end Go.Proofs.Ytjdpmjpfhcdcfaa
