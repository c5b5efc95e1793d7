/- The law of a full file: its walk. No conditions. -/
import Derived.OwnWalk
import Derived.Test.YthllhpjjoifnmaaGd
namespace Go.Proofs.Ythllhpjjoifnmaa
open Go.RowKit Go.Cav

theorem made_bytes (n : Nat) : (madeCells (Value.int .u8 0).cells (n * 1)).toList = (List.replicate n (0 : UInt8)).map B8 := by
  apply List.ext_getElem
  · simp [madeCells]
  · intro i h1 h2
    have hz : (Value.int .u8 0).cells = #[Value.int .u8 0] := rfl
    simp [madeCells, hz, B8, Nat.mod_one]

theorem make_bytes (w : World) (i : TypeInfo) (hi : Try.prog.info? 5 = some i) (hz : i.zero = some (.int .u8 0)) (hs : i.size = 1) (hb : i.bytes = 1) (n : Nat) (hn : n ≤ 1000) :
    ∃ w', (Instr.makeSlice 22 (.int .i64 (n : Int)) (.int .i64 (n : Int))).run Try.prog w = .ok (.slice (some ⟨w.heap.size, 0, none⟩) n n) w' ∧
      Reads w' 1 (.slice (some ⟨w.heap.size, 0, none⟩) n n) n ((List.replicate n (0 : UInt8)).map B8) ∧ w.grownBy w' none := by
  obtain ⟨w', h1, h2, h3⟩ := run_make_full (P := Try.prog) w w.heap.size 22 5 i (.int .u8 0) 1 Try.underlying22 hi hz hs .i64 .i64 n (by rw [hb]; omega) (by unfold maxLen; omega) (Nat.le_refl _)
  rw [made_bytes] at h2
  exact ⟨w', h1, Reads.of_owns h2, h3⟩

theorem made_both {W w1 w2 : World} {v1 v2 : Value} {n m : Nat} {xs ys : List Value} (h1 : Reads w1 1 v1 n xs) (h2 : Reads w2 1 v2 m ys) (g1 : W.drew.grownBy w1 none) (g2 : w1.grownBy w2 none) :
    Reads w2 1 v1 n xs ∧ Reads w2 1 v2 m ys ∧ Below W.heap.size W w2 := by
  have t1 : Stir (fun _ => False) W w1 := ((Stir.refl (fun _ => False) W).drew).grown g1 (fun k e => by cases e)
  have t2 : Stir (fun _ => False) w1 w2 := (Stir.refl (fun _ => False) w1).grown g2 (fun k e => by cases e)
  exact ⟨h1.touch t2 (fun _ _ e => e), h2, (t1.trans t2 (fun _ _ e => e)).below (Nat.le_refl _) (fun _ e => e.elim)⟩

theorem reads_len {w : World} {size : Nat} {v : Value} {n m : Nat} {l : List Value} (h : Reads w size v n l) (e : m = n) : Reads w size v m l := by subst e; exact h

set_option maxRecDepth 100000 in
set_option maxHeartbeats 2000000 in
theorem fileFull_a {W : World} (r a b : Int) (n m : Nat) (hr0 : 0 ≤ r) (hr1 : r ≤ 255) (hn : a.tmod 200 = (n : Int)) (hm : b.tmod 200 = (m : Int)) (h0 : n < 200) (h1 : m < 200) (ha0 : 0 ≤ a) (ha1 : a ≤ 255) (hb0 : 0 ≤ b) (hb1 : b ≤ 255)
    (hA : (n : Int) ≤ r) (hB : (n : Int) + (m : Int) ≤ r) (hC : (m : Int) ≤ r) :
    Calls Try.prog 4 #[.int .u8 r, .int .u8 a, .int .u8 b] W fun e w' => e = .returned (.bool true) ∧ Below W.heap.size W w' := by
  have hwr : IntKind.i64.wrap r = r := by rw [IntKind.wrap_i64]; omega
  have hwa : IntKind.i64.wrap a = a := by rw [IntKind.wrap_i64]; omega
  have hwb : IntKind.i64.wrap b = b := by rw [IntKind.wrap_i64]; omega
  obtain ⟨i0, hi, hz0, hz1, hz2⟩ := info_parts info5
  obtain ⟨w1, e1, o1, g1⟩ := make_bytes W.drew i0 hi hz0 hz1 hz2 n (by omega)
  obtain ⟨w2, e2, o2, g2⟩ := make_bytes w1 i0 hi hz0 hz1 hz2 m (by omega)
  obtain ⟨v1, e3, o3, g3⟩ := make_bytes W.drew i0 hi hz0 hz1 hz2 m (by omega)
  obtain ⟨v2, e4, o4, g4⟩ := make_bytes v1 i0 hi hz0 hz1 hz2 n (by omega)
  obtain ⟨xs, exs⟩ : ∃ xs, List.replicate n (0 : UInt8) = xs := ⟨_, rfl⟩
  obtain ⟨ys, eys⟩ : ∃ ys, List.replicate m (0 : UInt8) = ys := ⟨_, rfl⟩
  have hxs : xs.length = n := by rw [← exs]; simp
  have hys : ys.length = m := by rw [← eys]; simp
  rw [exs] at o1 o4
  rw [eys] at o2 o3
  obtain ⟨X1, Y1, V1⟩ := made_both o1 o2 g1 g2
  obtain ⟨Y2, X2, V2⟩ := made_both o3 o4 g3 g4
  have X1 := reads_len X1 hxs
  have X2 := reads_len X2 hxs
  have Y1 := reads_len Y1 hys
  have Y2 := reads_len Y2 hys
  clear exs eys o1 o2 o3 o4 g1 g2 g3 g4 hi hz0 hz1 hz2
  go_enter Try.func4, Try.ntmps4
  go_wp2_with fail
  go_region
  · have rx := X1; have ry := Y1; have hV := V1
    clear e1 e2 e3 e4 X1 Y1 V1 X2 Y2 V2
    go_wp2_with fail
    refine (new_any r 0 0 _).mono ?_
    rintro e w1 ⟨g, rfl, hg, hF1, ht1⟩
    have B1 := below_of_false ht1 (Nat.le_refl _)
    go_wp2_with fail
    refine (add_up _ g _ _ _ _ w1 hF1 rfl _ xs (arg_reads rx B1 (fun k h => h.1) B1.size) (by first | omega | (simp; done) | (simp; omega)) (by first | omega | (simp; done) | (simp; omega)) (by first | omega | (simp; done) | (simp; omega)) (by first | omega | (simp; done) | (simp; omega)) (by first | omega | (simp; done) | (simp; omega))).mono ?_
    rintro e w3 ⟨rfl, hs3⟩
    have B3 := B1.trans (step_below hs3 B1.size (fun k h => h.1))
    obtain ⟨S3, sv3, lv3, hF3, _, _, _⟩ := hs3
    have hS3 : ∀ k, S3 k → w2.heap.size ≤ k := fun k e => (hF3.from_ k e).1
    go_wp2_with fail
    refine (add_up _ g _ _ _ _ w3 hF3 rfl _ ys (arg_reads ry B3 hS3 B3.size) (by first | omega | (simp; done) | (simp; omega)) (by first | omega | (simp; done) | (simp; omega)) (by first | omega | (simp; done) | (simp; omega)) (by first | omega | (simp; done) | (simp; omega)) (by first | omega | (simp; done) | (simp; omega))).mono ?_
    rintro e w4 ⟨rfl, hs4⟩
    have B4 := B3.trans (step_below hs4 B3.size hS3)
    obtain ⟨S4, sv4, lv4, hF4, _, _, _⟩ := hs4
    have hS4 : ∀ k, S4 k → w2.heap.size ≤ k := fun k e => (hF4.from_ k e).1
    try dsimp only at hF4
    go_wp2_with (go_at_call 12; refine (num_any _ _).mono ?_; rintro e w' ⟨rfl, rfl⟩)
    refine (bytes_up _ g _ _ _ _ w4 hF4 rfl (by first | omega | (simp; done) | (simp; omega))).mono ?_
    rintro e w5 ⟨v5, rfl, hr5, ht5⟩
    have B5 := B4.trans (below_of_false ht5 B4.size)
    have hF5 := hF4.touch ht5 (fun _ _ e => e)
    try dsimp only at hr5
    obtain ⟨a5, c5, rfl⟩ := reads_slice hr5
    clear hr5 ht5
    go_wp2_with fail
    refine (swap_up _ g _ _ _ _ w5 hF5 rfl _ ys (arg_reads ry B5 hS4 B5.size) (by first | omega | (simp; done) | (simp; omega)) (by first | omega | (simp; done) | (simp; omega)) (by first | omega | (simp; done) | (simp; omega)) (by first | omega | (simp; done) | (simp; omega)) (by first | omega | (simp; done) | (simp; omega))).mono ?_
    rintro e w6 ⟨rfl, hs6⟩
    have B6 := B5.trans (step_below hs6 B5.size hS4)
    obtain ⟨S6, sv6, lv6, hF6, _, _, _⟩ := hs6
    dsimp only at hF6
    clear hF5 B5
    go_wp2_with fail
    refine (bytes_up _ g _ _ _ _ w6 hF6 rfl (by first | omega | (simp; done) | (simp; omega))).mono ?_
    rintro e w7 ⟨v7, rfl, hr7, ht7⟩
    have B7 := B6.trans (below_of_false ht7 B6.size)
    have hF7 := hF6.touch ht7 (fun _ _ e => e)
    try dsimp only at hr7
    rw [List.append_nil, hys] at hr7
    obtain ⟨a7, c7, rfl⟩ := reads_slice hr7
    have HB7 := Lib.hid (hV.trans (B7.mono hV.size))
    have hL := loose_any _ g _ _ _ _ w7 hF7
    clear hr7 ht7 hF6 B6 B7 hF7 rx ry hV ht1 B1 hF1 hg hF3 B3 hF4 B4
    go_wp2_with (first | (go_at_call 12; refine (num_any _ _).mono ?_; rintro e w' ⟨rfl, rfl⟩) | (go_at_call 13; refine hL.mono ?_; rintro e w' ⟨rfl, rfl⟩) | (go_at_call 8; refine (awake_any _).mono ?_; rintro e w8 ⟨rfl, hb⟩))
    all_goals (
      go_ret
      exact ⟨rfl, HB7.out.trans (hb.mono HB7.out.size)⟩)
  · have rx := X2; have ry := Y2; have hV := V2
    clear e1 e2 e3 e4 X1 Y1 V1 X2 Y2 V2
    go_wp2_with fail
    refine (new_any r 0 0 _).mono ?_
    rintro e w1 ⟨g, rfl, hg, hF1, ht1⟩
    have B1 := below_of_false ht1 (Nat.le_refl _)
    go_wp2_with fail
    refine (add_up _ g _ _ _ _ w1 hF1 rfl _ xs (arg_reads rx B1 (fun k h => h.1) B1.size) (by first | omega | (simp; done) | (simp; omega)) (by first | omega | (simp; done) | (simp; omega)) (by first | omega | (simp; done) | (simp; omega)) (by first | omega | (simp; done) | (simp; omega)) (by first | omega | (simp; done) | (simp; omega))).mono ?_
    rintro e w3 ⟨rfl, hs3⟩
    have B3 := B1.trans (step_below hs3 B1.size (fun k h => h.1))
    obtain ⟨S3, sv3, lv3, hF3, _, _, _⟩ := hs3
    have hS3 : ∀ k, S3 k → v2.heap.size ≤ k := fun k e => (hF3.from_ k e).1
    go_wp2_with fail
    refine (add_up _ g _ _ _ _ w3 hF3 rfl _ ys (arg_reads ry B3 hS3 B3.size) (by first | omega | (simp; done) | (simp; omega)) (by first | omega | (simp; done) | (simp; omega)) (by first | omega | (simp; done) | (simp; omega)) (by first | omega | (simp; done) | (simp; omega)) (by first | omega | (simp; done) | (simp; omega))).mono ?_
    rintro e w4 ⟨rfl, hs4⟩
    have B4 := B3.trans (step_below hs4 B3.size hS3)
    obtain ⟨S4, sv4, lv4, hF4, _, _, _⟩ := hs4
    have hS4 : ∀ k, S4 k → v2.heap.size ≤ k := fun k e => (hF4.from_ k e).1
    try dsimp only at hF4
    go_wp2_with (go_at_call 12; refine (num_any _ _).mono ?_; rintro e w' ⟨rfl, rfl⟩)
    refine (bytes_up _ g _ _ _ _ w4 hF4 rfl (by first | omega | (simp; done) | (simp; omega))).mono ?_
    rintro e w5 ⟨v5, rfl, hr5, ht5⟩
    have B5 := B4.trans (below_of_false ht5 B4.size)
    have hF5 := hF4.touch ht5 (fun _ _ e => e)
    try dsimp only at hr5
    obtain ⟨a5, c5, rfl⟩ := reads_slice hr5
    clear hr5 ht5
    go_wp2_with fail
    refine (swap_up _ g _ _ _ _ w5 hF5 rfl _ ys (arg_reads ry B5 hS4 B5.size) (by first | omega | (simp; done) | (simp; omega)) (by first | omega | (simp; done) | (simp; omega)) (by first | omega | (simp; done) | (simp; omega)) (by first | omega | (simp; done) | (simp; omega)) (by first | omega | (simp; done) | (simp; omega))).mono ?_
    rintro e w6 ⟨rfl, hs6⟩
    have B6 := B5.trans (step_below hs6 B5.size hS4)
    obtain ⟨S6, sv6, lv6, hF6, _, _, _⟩ := hs6
    dsimp only at hF6
    clear hF5 B5
    go_wp2_with fail
    refine (bytes_up _ g _ _ _ _ w6 hF6 rfl (by first | omega | (simp; done) | (simp; omega))).mono ?_
    rintro e w7 ⟨v7, rfl, hr7, ht7⟩
    have B7 := B6.trans (below_of_false ht7 B6.size)
    have hF7 := hF6.touch ht7 (fun _ _ e => e)
    try dsimp only at hr7
    rw [List.append_nil, hys] at hr7
    obtain ⟨a7, c7, rfl⟩ := reads_slice hr7
    have HB7 := Lib.hid (hV.trans (B7.mono hV.size))
    have hL := loose_any _ g _ _ _ _ w7 hF7
    clear hr7 ht7 hF6 B6 B7 hF7 rx ry hV ht1 B1 hF1 hg hF3 B3 hF4 B4
    go_wp2_with (first | (go_at_call 12; refine (num_any _ _).mono ?_; rintro e w' ⟨rfl, rfl⟩) | (go_at_call 13; refine hL.mono ?_; rintro e w' ⟨rfl, rfl⟩) | (go_at_call 8; refine (awake_any _).mono ?_; rintro e w8 ⟨rfl, hb⟩))
    all_goals (
      go_ret
      exact ⟨rfl, HB7.out.trans (hb.mono HB7.out.size)⟩)

set_option maxRecDepth 100000 in
set_option maxHeartbeats 2000000 in
theorem fileFull_b {W : World} (r a b : Int) (n m : Nat) (hr0 : 0 ≤ r) (hr1 : r ≤ 255) (hn : a.tmod 200 = (n : Int)) (hm : b.tmod 200 = (m : Int)) (h0 : n < 200) (h1 : m < 200) (ha0 : 0 ≤ a) (ha1 : a ≤ 255) (hb0 : 0 ≤ b) (hb1 : b ≤ 255)
    (hA : (n : Int) ≤ r) (hB : ¬ (n : Int) + (m : Int) ≤ r) (hC : (m : Int) ≤ r) :
    Calls Try.prog 4 #[.int .u8 r, .int .u8 a, .int .u8 b] W fun e w' => e = .returned (.bool true) ∧ Below W.heap.size W w' := by
  have hwr : IntKind.i64.wrap r = r := by rw [IntKind.wrap_i64]; omega
  have hwa : IntKind.i64.wrap a = a := by rw [IntKind.wrap_i64]; omega
  have hwb : IntKind.i64.wrap b = b := by rw [IntKind.wrap_i64]; omega
  obtain ⟨i0, hi, hz0, hz1, hz2⟩ := info_parts info5
  obtain ⟨w1, e1, o1, g1⟩ := make_bytes W.drew i0 hi hz0 hz1 hz2 n (by omega)
  obtain ⟨w2, e2, o2, g2⟩ := make_bytes w1 i0 hi hz0 hz1 hz2 m (by omega)
  obtain ⟨v1, e3, o3, g3⟩ := make_bytes W.drew i0 hi hz0 hz1 hz2 m (by omega)
  obtain ⟨v2, e4, o4, g4⟩ := make_bytes v1 i0 hi hz0 hz1 hz2 n (by omega)
  obtain ⟨xs, exs⟩ : ∃ xs, List.replicate n (0 : UInt8) = xs := ⟨_, rfl⟩
  obtain ⟨ys, eys⟩ : ∃ ys, List.replicate m (0 : UInt8) = ys := ⟨_, rfl⟩
  have hxs : xs.length = n := by rw [← exs]; simp
  have hys : ys.length = m := by rw [← eys]; simp
  rw [exs] at o1 o4
  rw [eys] at o2 o3
  obtain ⟨X1, Y1, V1⟩ := made_both o1 o2 g1 g2
  obtain ⟨Y2, X2, V2⟩ := made_both o3 o4 g3 g4
  have X1 := reads_len X1 hxs
  have X2 := reads_len X2 hxs
  have Y1 := reads_len Y1 hys
  have Y2 := reads_len Y2 hys
  clear exs eys o1 o2 o3 o4 g1 g2 g3 g4 hi hz0 hz1 hz2
  go_enter Try.func4, Try.ntmps4
  go_wp2_with fail
  go_region
  · have rx := X1; have ry := Y1; have hV := V1
    clear e1 e2 e3 e4 X1 Y1 V1 X2 Y2 V2
    go_wp2_with fail
    refine (new_any r 0 0 _).mono ?_
    rintro e w1 ⟨g, rfl, hg, hF1, ht1⟩
    have B1 := below_of_false ht1 (Nat.le_refl _)
    go_wp2_with fail
    refine (add_up _ g _ _ _ _ w1 hF1 rfl _ xs (arg_reads rx B1 (fun k h => h.1) B1.size) (by first | omega | (simp; done) | (simp; omega)) (by first | omega | (simp; done) | (simp; omega)) (by first | omega | (simp; done) | (simp; omega)) (by first | omega | (simp; done) | (simp; omega)) (by first | omega | (simp; done) | (simp; omega))).mono ?_
    rintro e w3 ⟨rfl, hs3⟩
    have B3 := B1.trans (step_below hs3 B1.size (fun k h => h.1))
    obtain ⟨S3, sv3, lv3, hF3, _, _, _⟩ := hs3
    have hS3 : ∀ k, S3 k → w2.heap.size ≤ k := fun k e => (hF3.from_ k e).1
    go_wp2_with fail
    refine (add_full _ g _ _ _ _ w3 hF3 rfl _ _ _ (by first | omega | (simp; done) | (simp; omega)) (by first | omega | (simp; done) | (simp; omega))).mono ?_
    rintro e w4 ⟨rfl, ht4⟩
    have B4 := B3.trans (below_of_false ht4 B3.size)
    have hF4 := hF3.touch ht4 (fun _ _ e => e)
    try dsimp only at hF4
    go_wp2_with (go_at_call 12; refine (num_any _ _).mono ?_; rintro e w' ⟨rfl, rfl⟩)
    refine (bytes_up _ g _ _ _ _ w4 hF4 rfl (by first | omega | (simp; done) | (simp; omega))).mono ?_
    rintro e w5 ⟨v5, rfl, hr5, ht5⟩
    have B5 := B4.trans (below_of_false ht5 B4.size)
    have hF5 := hF4.touch ht5 (fun _ _ e => e)
    try dsimp only at hr5
    obtain ⟨a5, c5, rfl⟩ := reads_slice hr5
    clear hr5 ht5
    go_wp2_with fail
    refine (swap_up _ g _ _ _ _ w5 hF5 rfl _ ys (arg_reads ry B5 hS3 B5.size) (by first | omega | (simp; done) | (simp; omega)) (by first | omega | (simp; done) | (simp; omega)) (by first | omega | (simp; done) | (simp; omega)) (by first | omega | (simp; done) | (simp; omega)) (by first | omega | (simp; done) | (simp; omega))).mono ?_
    rintro e w6 ⟨rfl, hs6⟩
    have B6 := B5.trans (step_below hs6 B5.size hS3)
    obtain ⟨S6, sv6, lv6, hF6, _, _, _⟩ := hs6
    dsimp only at hF6
    clear hF5 B5
    go_wp2_with fail
    refine (bytes_up _ g _ _ _ _ w6 hF6 rfl (by first | omega | (simp; done) | (simp; omega))).mono ?_
    rintro e w7 ⟨v7, rfl, hr7, ht7⟩
    have B7 := B6.trans (below_of_false ht7 B6.size)
    have hF7 := hF6.touch ht7 (fun _ _ e => e)
    try dsimp only at hr7
    rw [List.append_nil, hys] at hr7
    obtain ⟨a7, c7, rfl⟩ := reads_slice hr7
    have HB7 := Lib.hid (hV.trans (B7.mono hV.size))
    have hL := loose_any _ g _ _ _ _ w7 hF7
    clear hr7 ht7 hF6 B6 B7 hF7 rx ry hV ht1 B1 hF1 hg hF3 B3 hF4 B4
    go_wp2_with (first | (go_at_call 12; refine (num_any _ _).mono ?_; rintro e w' ⟨rfl, rfl⟩) | (go_at_call 13; refine hL.mono ?_; rintro e w' ⟨rfl, rfl⟩) | (go_at_call 8; refine (awake_any _).mono ?_; rintro e w8 ⟨rfl, hb⟩))
    all_goals (
      go_ret
      exact ⟨rfl, HB7.out.trans (hb.mono HB7.out.size)⟩)
  · have rx := X2; have ry := Y2; have hV := V2
    clear e1 e2 e3 e4 X1 Y1 V1 X2 Y2 V2
    go_wp2_with fail
    refine (new_any r 0 0 _).mono ?_
    rintro e w1 ⟨g, rfl, hg, hF1, ht1⟩
    have B1 := below_of_false ht1 (Nat.le_refl _)
    go_wp2_with fail
    refine (add_up _ g _ _ _ _ w1 hF1 rfl _ xs (arg_reads rx B1 (fun k h => h.1) B1.size) (by first | omega | (simp; done) | (simp; omega)) (by first | omega | (simp; done) | (simp; omega)) (by first | omega | (simp; done) | (simp; omega)) (by first | omega | (simp; done) | (simp; omega)) (by first | omega | (simp; done) | (simp; omega))).mono ?_
    rintro e w3 ⟨rfl, hs3⟩
    have B3 := B1.trans (step_below hs3 B1.size (fun k h => h.1))
    obtain ⟨S3, sv3, lv3, hF3, _, _, _⟩ := hs3
    have hS3 : ∀ k, S3 k → v2.heap.size ≤ k := fun k e => (hF3.from_ k e).1
    go_wp2_with fail
    refine (add_full _ g _ _ _ _ w3 hF3 rfl _ _ _ (by first | omega | (simp; done) | (simp; omega)) (by first | omega | (simp; done) | (simp; omega))).mono ?_
    rintro e w4 ⟨rfl, ht4⟩
    have B4 := B3.trans (below_of_false ht4 B3.size)
    have hF4 := hF3.touch ht4 (fun _ _ e => e)
    try dsimp only at hF4
    go_wp2_with (go_at_call 12; refine (num_any _ _).mono ?_; rintro e w' ⟨rfl, rfl⟩)
    refine (bytes_up _ g _ _ _ _ w4 hF4 rfl (by first | omega | (simp; done) | (simp; omega))).mono ?_
    rintro e w5 ⟨v5, rfl, hr5, ht5⟩
    have B5 := B4.trans (below_of_false ht5 B4.size)
    have hF5 := hF4.touch ht5 (fun _ _ e => e)
    try dsimp only at hr5
    obtain ⟨a5, c5, rfl⟩ := reads_slice hr5
    clear hr5 ht5
    go_wp2_with fail
    refine (swap_up _ g _ _ _ _ w5 hF5 rfl _ ys (arg_reads ry B5 hS3 B5.size) (by first | omega | (simp; done) | (simp; omega)) (by first | omega | (simp; done) | (simp; omega)) (by first | omega | (simp; done) | (simp; omega)) (by first | omega | (simp; done) | (simp; omega)) (by first | omega | (simp; done) | (simp; omega))).mono ?_
    rintro e w6 ⟨rfl, hs6⟩
    have B6 := B5.trans (step_below hs6 B5.size hS3)
    obtain ⟨S6, sv6, lv6, hF6, _, _, _⟩ := hs6
    dsimp only at hF6
    clear hF5 B5
    go_wp2_with fail
    refine (bytes_up _ g _ _ _ _ w6 hF6 rfl (by first | omega | (simp; done) | (simp; omega))).mono ?_
    rintro e w7 ⟨v7, rfl, hr7, ht7⟩
    have B7 := B6.trans (below_of_false ht7 B6.size)
    have hF7 := hF6.touch ht7 (fun _ _ e => e)
    try dsimp only at hr7
    rw [List.append_nil, hys] at hr7
    obtain ⟨a7, c7, rfl⟩ := reads_slice hr7
    have HB7 := Lib.hid (hV.trans (B7.mono hV.size))
    have hL := loose_any _ g _ _ _ _ w7 hF7
    clear hr7 ht7 hF6 B6 B7 hF7 rx ry hV ht1 B1 hF1 hg hF3 B3 hF4 B4
    go_wp2_with (first | (go_at_call 12; refine (num_any _ _).mono ?_; rintro e w' ⟨rfl, rfl⟩) | (go_at_call 13; refine hL.mono ?_; rintro e w' ⟨rfl, rfl⟩) | (go_at_call 8; refine (awake_any _).mono ?_; rintro e w8 ⟨rfl, hb⟩))
    all_goals (
      go_ret
      exact ⟨rfl, HB7.out.trans (hb.mono HB7.out.size)⟩)

set_option maxRecDepth 100000 in
set_option maxHeartbeats 2000000 in
theorem fileFull_c {W : World} (r a b : Int) (n m : Nat) (hr0 : 0 ≤ r) (hr1 : r ≤ 255) (hn : a.tmod 200 = (n : Int)) (hm : b.tmod 200 = (m : Int)) (h0 : n < 200) (h1 : m < 200) (ha0 : 0 ≤ a) (ha1 : a ≤ 255) (hb0 : 0 ≤ b) (hb1 : b ≤ 255)
    (hA : (n : Int) ≤ r) (hB : ¬ (n : Int) + (m : Int) ≤ r) (hC : ¬ (m : Int) ≤ r) :
    Calls Try.prog 4 #[.int .u8 r, .int .u8 a, .int .u8 b] W fun e w' => e = .returned (.bool true) ∧ Below W.heap.size W w' := by
  have hwr : IntKind.i64.wrap r = r := by rw [IntKind.wrap_i64]; omega
  have hwa : IntKind.i64.wrap a = a := by rw [IntKind.wrap_i64]; omega
  have hwb : IntKind.i64.wrap b = b := by rw [IntKind.wrap_i64]; omega
  obtain ⟨i0, hi, hz0, hz1, hz2⟩ := info_parts info5
  obtain ⟨w1, e1, o1, g1⟩ := make_bytes W.drew i0 hi hz0 hz1 hz2 n (by omega)
  obtain ⟨w2, e2, o2, g2⟩ := make_bytes w1 i0 hi hz0 hz1 hz2 m (by omega)
  obtain ⟨v1, e3, o3, g3⟩ := make_bytes W.drew i0 hi hz0 hz1 hz2 m (by omega)
  obtain ⟨v2, e4, o4, g4⟩ := make_bytes v1 i0 hi hz0 hz1 hz2 n (by omega)
  obtain ⟨xs, exs⟩ : ∃ xs, List.replicate n (0 : UInt8) = xs := ⟨_, rfl⟩
  obtain ⟨ys, eys⟩ : ∃ ys, List.replicate m (0 : UInt8) = ys := ⟨_, rfl⟩
  have hxs : xs.length = n := by rw [← exs]; simp
  have hys : ys.length = m := by rw [← eys]; simp
  rw [exs] at o1 o4
  rw [eys] at o2 o3
  obtain ⟨X1, Y1, V1⟩ := made_both o1 o2 g1 g2
  obtain ⟨Y2, X2, V2⟩ := made_both o3 o4 g3 g4
  have X1 := reads_len X1 hxs
  have X2 := reads_len X2 hxs
  have Y1 := reads_len Y1 hys
  have Y2 := reads_len Y2 hys
  clear exs eys o1 o2 o3 o4 g1 g2 g3 g4 hi hz0 hz1 hz2
  go_enter Try.func4, Try.ntmps4
  go_wp2_with fail
  go_region
  · have rx := X1; have ry := Y1; have hV := V1
    clear e1 e2 e3 e4 X1 Y1 V1 X2 Y2 V2
    go_wp2_with fail
    refine (new_any r 0 0 _).mono ?_
    rintro e w1 ⟨g, rfl, hg, hF1, ht1⟩
    have B1 := below_of_false ht1 (Nat.le_refl _)
    go_wp2_with fail
    refine (add_up _ g _ _ _ _ w1 hF1 rfl _ xs (arg_reads rx B1 (fun k h => h.1) B1.size) (by first | omega | (simp; done) | (simp; omega)) (by first | omega | (simp; done) | (simp; omega)) (by first | omega | (simp; done) | (simp; omega)) (by first | omega | (simp; done) | (simp; omega)) (by first | omega | (simp; done) | (simp; omega))).mono ?_
    rintro e w3 ⟨rfl, hs3⟩
    have B3 := B1.trans (step_below hs3 B1.size (fun k h => h.1))
    obtain ⟨S3, sv3, lv3, hF3, _, _, _⟩ := hs3
    have hS3 : ∀ k, S3 k → w2.heap.size ≤ k := fun k e => (hF3.from_ k e).1
    go_wp2_with fail
    refine (add_full _ g _ _ _ _ w3 hF3 rfl _ _ _ (by first | omega | (simp; done) | (simp; omega)) (by first | omega | (simp; done) | (simp; omega))).mono ?_
    rintro e w4 ⟨rfl, ht4⟩
    have B4 := B3.trans (below_of_false ht4 B3.size)
    have hF4 := hF3.touch ht4 (fun _ _ e => e)
    try dsimp only at hF4
    go_wp2_with (go_at_call 12; refine (num_any _ _).mono ?_; rintro e w' ⟨rfl, rfl⟩)
    refine (bytes_up _ g _ _ _ _ w4 hF4 rfl (by first | omega | (simp; done) | (simp; omega))).mono ?_
    rintro e w5 ⟨v5, rfl, hr5, ht5⟩
    have B5 := B4.trans (below_of_false ht5 B4.size)
    have hF5 := hF4.touch ht5 (fun _ _ e => e)
    try dsimp only at hr5
    obtain ⟨a5, c5, rfl⟩ := reads_slice hr5
    clear hr5 ht5
    go_wp2_with fail
    obtain ⟨_, _, k2, _, _, _, k6⟩ := hF5.cells
    try dsimp only at k2 k6
    refine (swap_full g r w5 k2 k6 _ _ _ (by omega)).mono ?_
    rintro e w6 ⟨rfl, hw6⟩
    have B6 := B5
    have hF6 := hF5
    rw [hw6] at B6 hF6
    clear k2 k6 hw6
    clear hF5 B5
    go_wp2_with fail
    refine (bytes_up _ g _ _ _ _ w6 hF6 rfl (by first | omega | (simp; done) | (simp; omega))).mono ?_
    rintro e w7 ⟨v7, rfl, hr7, ht7⟩
    have B7 := B6.trans (below_of_false ht7 B6.size)
    have hF7 := hF6.touch ht7 (fun _ _ e => e)
    try dsimp only at hr7
    obtain ⟨a7, c7, rfl⟩ := reads_slice hr7
    have HB7 := Lib.hid (hV.trans (B7.mono hV.size))
    have hL := loose_any _ g _ _ _ _ w7 hF7
    clear hr7 ht7 hF6 B6 B7 hF7 rx ry hV ht1 B1 hF1 hg hF3 B3 hF4 B4
    go_wp2_with (first | (go_at_call 12; refine (num_any _ _).mono ?_; rintro e w' ⟨rfl, rfl⟩) | (go_at_call 13; refine hL.mono ?_; rintro e w' ⟨rfl, rfl⟩) | (go_at_call 8; refine (awake_any _).mono ?_; rintro e w8 ⟨rfl, hb⟩))
    all_goals (
      go_ret
      exact ⟨rfl, HB7.out.trans (hb.mono HB7.out.size)⟩)
  · have rx := X2; have ry := Y2; have hV := V2
    clear e1 e2 e3 e4 X1 Y1 V1 X2 Y2 V2
    go_wp2_with fail
    refine (new_any r 0 0 _).mono ?_
    rintro e w1 ⟨g, rfl, hg, hF1, ht1⟩
    have B1 := below_of_false ht1 (Nat.le_refl _)
    go_wp2_with fail
    refine (add_up _ g _ _ _ _ w1 hF1 rfl _ xs (arg_reads rx B1 (fun k h => h.1) B1.size) (by first | omega | (simp; done) | (simp; omega)) (by first | omega | (simp; done) | (simp; omega)) (by first | omega | (simp; done) | (simp; omega)) (by first | omega | (simp; done) | (simp; omega)) (by first | omega | (simp; done) | (simp; omega))).mono ?_
    rintro e w3 ⟨rfl, hs3⟩
    have B3 := B1.trans (step_below hs3 B1.size (fun k h => h.1))
    obtain ⟨S3, sv3, lv3, hF3, _, _, _⟩ := hs3
    have hS3 : ∀ k, S3 k → v2.heap.size ≤ k := fun k e => (hF3.from_ k e).1
    go_wp2_with fail
    refine (add_full _ g _ _ _ _ w3 hF3 rfl _ _ _ (by first | omega | (simp; done) | (simp; omega)) (by first | omega | (simp; done) | (simp; omega))).mono ?_
    rintro e w4 ⟨rfl, ht4⟩
    have B4 := B3.trans (below_of_false ht4 B3.size)
    have hF4 := hF3.touch ht4 (fun _ _ e => e)
    try dsimp only at hF4
    go_wp2_with (go_at_call 12; refine (num_any _ _).mono ?_; rintro e w' ⟨rfl, rfl⟩)
    refine (bytes_up _ g _ _ _ _ w4 hF4 rfl (by first | omega | (simp; done) | (simp; omega))).mono ?_
    rintro e w5 ⟨v5, rfl, hr5, ht5⟩
    have B5 := B4.trans (below_of_false ht5 B4.size)
    have hF5 := hF4.touch ht5 (fun _ _ e => e)
    try dsimp only at hr5
    obtain ⟨a5, c5, rfl⟩ := reads_slice hr5
    clear hr5 ht5
    go_wp2_with fail
    obtain ⟨_, _, k2, _, _, _, k6⟩ := hF5.cells
    try dsimp only at k2 k6
    refine (swap_full g r w5 k2 k6 _ _ _ (by omega)).mono ?_
    rintro e w6 ⟨rfl, hw6⟩
    have B6 := B5
    have hF6 := hF5
    rw [hw6] at B6 hF6
    clear k2 k6 hw6
    clear hF5 B5
    go_wp2_with fail
    refine (bytes_up _ g _ _ _ _ w6 hF6 rfl (by first | omega | (simp; done) | (simp; omega))).mono ?_
    rintro e w7 ⟨v7, rfl, hr7, ht7⟩
    have B7 := B6.trans (below_of_false ht7 B6.size)
    have hF7 := hF6.touch ht7 (fun _ _ e => e)
    try dsimp only at hr7
    obtain ⟨a7, c7, rfl⟩ := reads_slice hr7
    have HB7 := Lib.hid (hV.trans (B7.mono hV.size))
    have hL := loose_any _ g _ _ _ _ w7 hF7
    clear hr7 ht7 hF6 B6 B7 hF7 rx ry hV ht1 B1 hF1 hg hF3 B3 hF4 B4
    go_wp2_with (first | (go_at_call 12; refine (num_any _ _).mono ?_; rintro e w' ⟨rfl, rfl⟩) | (go_at_call 13; refine hL.mono ?_; rintro e w' ⟨rfl, rfl⟩) | (go_at_call 8; refine (awake_any _).mono ?_; rintro e w8 ⟨rfl, hb⟩))
    all_goals (
      go_ret
      exact ⟨rfl, HB7.out.trans (hb.mono HB7.out.size)⟩)

set_option maxRecDepth 100000 in
set_option maxHeartbeats 2000000 in
theorem fileFull_d {W : World} (r a b : Int) (n m : Nat) (hr0 : 0 ≤ r) (hr1 : r ≤ 255) (hn : a.tmod 200 = (n : Int)) (hm : b.tmod 200 = (m : Int)) (h0 : n < 200) (h1 : m < 200) (ha0 : 0 ≤ a) (ha1 : a ≤ 255) (hb0 : 0 ≤ b) (hb1 : b ≤ 255)
    (hA : ¬ (n : Int) ≤ r) (hC : (m : Int) ≤ r) :
    Calls Try.prog 4 #[.int .u8 r, .int .u8 a, .int .u8 b] W fun e w' => e = .returned (.bool true) ∧ Below W.heap.size W w' := by
  have hwr : IntKind.i64.wrap r = r := by rw [IntKind.wrap_i64]; omega
  have hwa : IntKind.i64.wrap a = a := by rw [IntKind.wrap_i64]; omega
  have hwb : IntKind.i64.wrap b = b := by rw [IntKind.wrap_i64]; omega
  obtain ⟨i0, hi, hz0, hz1, hz2⟩ := info_parts info5
  obtain ⟨w1, e1, o1, g1⟩ := make_bytes W.drew i0 hi hz0 hz1 hz2 n (by omega)
  obtain ⟨w2, e2, o2, g2⟩ := make_bytes w1 i0 hi hz0 hz1 hz2 m (by omega)
  obtain ⟨v1, e3, o3, g3⟩ := make_bytes W.drew i0 hi hz0 hz1 hz2 m (by omega)
  obtain ⟨v2, e4, o4, g4⟩ := make_bytes v1 i0 hi hz0 hz1 hz2 n (by omega)
  obtain ⟨xs, exs⟩ : ∃ xs, List.replicate n (0 : UInt8) = xs := ⟨_, rfl⟩
  obtain ⟨ys, eys⟩ : ∃ ys, List.replicate m (0 : UInt8) = ys := ⟨_, rfl⟩
  have hxs : xs.length = n := by rw [← exs]; simp
  have hys : ys.length = m := by rw [← eys]; simp
  rw [exs] at o1 o4
  rw [eys] at o2 o3
  obtain ⟨X1, Y1, V1⟩ := made_both o1 o2 g1 g2
  obtain ⟨Y2, X2, V2⟩ := made_both o3 o4 g3 g4
  have X1 := reads_len X1 hxs
  have X2 := reads_len X2 hxs
  have Y1 := reads_len Y1 hys
  have Y2 := reads_len Y2 hys
  clear exs eys o1 o2 o3 o4 g1 g2 g3 g4 hi hz0 hz1 hz2
  go_enter Try.func4, Try.ntmps4
  go_wp2_with fail
  go_region
  · have rx := X1; have ry := Y1; have hV := V1
    clear e1 e2 e3 e4 X1 Y1 V1 X2 Y2 V2
    go_wp2_with fail
    refine (new_any r 0 0 _).mono ?_
    rintro e w1 ⟨g, rfl, hg, hF1, ht1⟩
    have B1 := below_of_false ht1 (Nat.le_refl _)
    go_wp2_with fail
    refine (add_full _ g _ _ _ _ w1 hF1 rfl _ _ _ (by first | omega | (simp; done) | (simp; omega)) (by first | omega | (simp; done) | (simp; omega))).mono ?_
    rintro e w3 ⟨rfl, ht3⟩
    have B3 := B1.trans (below_of_false ht3 B1.size)
    have hF3 := hF1.touch ht3 (fun _ _ e => e)
    go_wp2_with fail
    refine (add_up _ g _ _ _ _ w3 hF3 rfl _ ys (arg_reads ry B3 (fun k h => h.1) B3.size) (by first | omega | (simp; done) | (simp; omega)) (by first | omega | (simp; done) | (simp; omega)) (by first | omega | (simp; done) | (simp; omega)) (by first | omega | (simp; done) | (simp; omega)) (by first | omega | (simp; done) | (simp; omega))).mono ?_
    rintro e w4 ⟨rfl, hs4⟩
    have B4 := B3.trans (step_below hs4 B3.size (fun k h => h.1))
    obtain ⟨S4, sv4, lv4, hF4, _, _, _⟩ := hs4
    have hS4 : ∀ k, S4 k → w2.heap.size ≤ k := fun k e => (hF4.from_ k e).1
    try dsimp only at hF4
    go_wp2_with (go_at_call 12; refine (num_any _ _).mono ?_; rintro e w' ⟨rfl, rfl⟩)
    refine (bytes_up _ g _ _ _ _ w4 hF4 rfl (by first | omega | (simp; done) | (simp; omega))).mono ?_
    rintro e w5 ⟨v5, rfl, hr5, ht5⟩
    have B5 := B4.trans (below_of_false ht5 B4.size)
    have hF5 := hF4.touch ht5 (fun _ _ e => e)
    try dsimp only at hr5
    obtain ⟨a5, c5, rfl⟩ := reads_slice hr5
    clear hr5 ht5
    go_wp2_with fail
    refine (swap_up _ g _ _ _ _ w5 hF5 rfl _ ys (arg_reads ry B5 hS4 B5.size) (by first | omega | (simp; done) | (simp; omega)) (by first | omega | (simp; done) | (simp; omega)) (by first | omega | (simp; done) | (simp; omega)) (by first | omega | (simp; done) | (simp; omega)) (by first | omega | (simp; done) | (simp; omega))).mono ?_
    rintro e w6 ⟨rfl, hs6⟩
    have B6 := B5.trans (step_below hs6 B5.size hS4)
    obtain ⟨S6, sv6, lv6, hF6, _, _, _⟩ := hs6
    dsimp only at hF6
    clear hF5 B5
    go_wp2_with fail
    refine (bytes_up _ g _ _ _ _ w6 hF6 rfl (by first | omega | (simp; done) | (simp; omega))).mono ?_
    rintro e w7 ⟨v7, rfl, hr7, ht7⟩
    have B7 := B6.trans (below_of_false ht7 B6.size)
    have hF7 := hF6.touch ht7 (fun _ _ e => e)
    try dsimp only at hr7
    rw [List.append_nil, hys] at hr7
    obtain ⟨a7, c7, rfl⟩ := reads_slice hr7
    have HB7 := Lib.hid (hV.trans (B7.mono hV.size))
    have hL := loose_any _ g _ _ _ _ w7 hF7
    clear hr7 ht7 hF6 B6 B7 hF7 rx ry hV ht1 B1 hF1 hg hF3 B3 hF4 B4
    go_wp2_with (first | (go_at_call 12; refine (num_any _ _).mono ?_; rintro e w' ⟨rfl, rfl⟩) | (go_at_call 13; refine hL.mono ?_; rintro e w' ⟨rfl, rfl⟩) | (go_at_call 8; refine (awake_any _).mono ?_; rintro e w8 ⟨rfl, hb⟩))
    all_goals (
      go_ret
      exact ⟨rfl, HB7.out.trans (hb.mono HB7.out.size)⟩)
  · have rx := X2; have ry := Y2; have hV := V2
    clear e1 e2 e3 e4 X1 Y1 V1 X2 Y2 V2
    go_wp2_with fail
    refine (new_any r 0 0 _).mono ?_
    rintro e w1 ⟨g, rfl, hg, hF1, ht1⟩
    have B1 := below_of_false ht1 (Nat.le_refl _)
    go_wp2_with fail
    refine (add_full _ g _ _ _ _ w1 hF1 rfl _ _ _ (by first | omega | (simp; done) | (simp; omega)) (by first | omega | (simp; done) | (simp; omega))).mono ?_
    rintro e w3 ⟨rfl, ht3⟩
    have B3 := B1.trans (below_of_false ht3 B1.size)
    have hF3 := hF1.touch ht3 (fun _ _ e => e)
    go_wp2_with fail
    refine (add_up _ g _ _ _ _ w3 hF3 rfl _ ys (arg_reads ry B3 (fun k h => h.1) B3.size) (by first | omega | (simp; done) | (simp; omega)) (by first | omega | (simp; done) | (simp; omega)) (by first | omega | (simp; done) | (simp; omega)) (by first | omega | (simp; done) | (simp; omega)) (by first | omega | (simp; done) | (simp; omega))).mono ?_
    rintro e w4 ⟨rfl, hs4⟩
    have B4 := B3.trans (step_below hs4 B3.size (fun k h => h.1))
    obtain ⟨S4, sv4, lv4, hF4, _, _, _⟩ := hs4
    have hS4 : ∀ k, S4 k → v2.heap.size ≤ k := fun k e => (hF4.from_ k e).1
    try dsimp only at hF4
    go_wp2_with (go_at_call 12; refine (num_any _ _).mono ?_; rintro e w' ⟨rfl, rfl⟩)
    refine (bytes_up _ g _ _ _ _ w4 hF4 rfl (by first | omega | (simp; done) | (simp; omega))).mono ?_
    rintro e w5 ⟨v5, rfl, hr5, ht5⟩
    have B5 := B4.trans (below_of_false ht5 B4.size)
    have hF5 := hF4.touch ht5 (fun _ _ e => e)
    try dsimp only at hr5
    obtain ⟨a5, c5, rfl⟩ := reads_slice hr5
    clear hr5 ht5
    go_wp2_with fail
    refine (swap_up _ g _ _ _ _ w5 hF5 rfl _ ys (arg_reads ry B5 hS4 B5.size) (by first | omega | (simp; done) | (simp; omega)) (by first | omega | (simp; done) | (simp; omega)) (by first | omega | (simp; done) | (simp; omega)) (by first | omega | (simp; done) | (simp; omega)) (by first | omega | (simp; done) | (simp; omega))).mono ?_
    rintro e w6 ⟨rfl, hs6⟩
    have B6 := B5.trans (step_below hs6 B5.size hS4)
    obtain ⟨S6, sv6, lv6, hF6, _, _, _⟩ := hs6
    dsimp only at hF6
    clear hF5 B5
    go_wp2_with fail
    refine (bytes_up _ g _ _ _ _ w6 hF6 rfl (by first | omega | (simp; done) | (simp; omega))).mono ?_
    rintro e w7 ⟨v7, rfl, hr7, ht7⟩
    have B7 := B6.trans (below_of_false ht7 B6.size)
    have hF7 := hF6.touch ht7 (fun _ _ e => e)
    try dsimp only at hr7
    rw [List.append_nil, hys] at hr7
    obtain ⟨a7, c7, rfl⟩ := reads_slice hr7
    have HB7 := Lib.hid (hV.trans (B7.mono hV.size))
    have hL := loose_any _ g _ _ _ _ w7 hF7
    clear hr7 ht7 hF6 B6 B7 hF7 rx ry hV ht1 B1 hF1 hg hF3 B3 hF4 B4
    go_wp2_with (first | (go_at_call 12; refine (num_any _ _).mono ?_; rintro e w' ⟨rfl, rfl⟩) | (go_at_call 13; refine hL.mono ?_; rintro e w' ⟨rfl, rfl⟩) | (go_at_call 8; refine (awake_any _).mono ?_; rintro e w8 ⟨rfl, hb⟩))
    all_goals (
      go_ret
      exact ⟨rfl, HB7.out.trans (hb.mono HB7.out.size)⟩)

set_option maxRecDepth 100000 in
set_option maxHeartbeats 2000000 in
theorem fileFull_e {W : World} (r a b : Int) (n m : Nat) (hr0 : 0 ≤ r) (hr1 : r ≤ 255) (hn : a.tmod 200 = (n : Int)) (hm : b.tmod 200 = (m : Int)) (h0 : n < 200) (h1 : m < 200) (ha0 : 0 ≤ a) (ha1 : a ≤ 255) (hb0 : 0 ≤ b) (hb1 : b ≤ 255)
    (hA : ¬ (n : Int) ≤ r) (hC : ¬ (m : Int) ≤ r) :
    Calls Try.prog 4 #[.int .u8 r, .int .u8 a, .int .u8 b] W fun e w' => e = .returned (.bool true) ∧ Below W.heap.size W w' := by
  have hwr : IntKind.i64.wrap r = r := by rw [IntKind.wrap_i64]; omega
  have hwa : IntKind.i64.wrap a = a := by rw [IntKind.wrap_i64]; omega
  have hwb : IntKind.i64.wrap b = b := by rw [IntKind.wrap_i64]; omega
  obtain ⟨i0, hi, hz0, hz1, hz2⟩ := info_parts info5
  obtain ⟨w1, e1, o1, g1⟩ := make_bytes W.drew i0 hi hz0 hz1 hz2 n (by omega)
  obtain ⟨w2, e2, o2, g2⟩ := make_bytes w1 i0 hi hz0 hz1 hz2 m (by omega)
  obtain ⟨v1, e3, o3, g3⟩ := make_bytes W.drew i0 hi hz0 hz1 hz2 m (by omega)
  obtain ⟨v2, e4, o4, g4⟩ := make_bytes v1 i0 hi hz0 hz1 hz2 n (by omega)
  obtain ⟨xs, exs⟩ : ∃ xs, List.replicate n (0 : UInt8) = xs := ⟨_, rfl⟩
  obtain ⟨ys, eys⟩ : ∃ ys, List.replicate m (0 : UInt8) = ys := ⟨_, rfl⟩
  have hxs : xs.length = n := by rw [← exs]; simp
  have hys : ys.length = m := by rw [← eys]; simp
  rw [exs] at o1 o4
  rw [eys] at o2 o3
  obtain ⟨X1, Y1, V1⟩ := made_both o1 o2 g1 g2
  obtain ⟨Y2, X2, V2⟩ := made_both o3 o4 g3 g4
  have X1 := reads_len X1 hxs
  have X2 := reads_len X2 hxs
  have Y1 := reads_len Y1 hys
  have Y2 := reads_len Y2 hys
  clear exs eys o1 o2 o3 o4 g1 g2 g3 g4 hi hz0 hz1 hz2
  go_enter Try.func4, Try.ntmps4
  go_wp2_with fail
  go_region
  · have rx := X1; have ry := Y1; have hV := V1
    clear e1 e2 e3 e4 X1 Y1 V1 X2 Y2 V2
    go_wp2_with fail
    refine (new_any r 0 0 _).mono ?_
    rintro e w1 ⟨g, rfl, hg, hF1, ht1⟩
    have B1 := below_of_false ht1 (Nat.le_refl _)
    go_wp2_with fail
    refine (add_full _ g _ _ _ _ w1 hF1 rfl _ _ _ (by first | omega | (simp; done) | (simp; omega)) (by first | omega | (simp; done) | (simp; omega))).mono ?_
    rintro e w3 ⟨rfl, ht3⟩
    have B3 := B1.trans (below_of_false ht3 B1.size)
    have hF3 := hF1.touch ht3 (fun _ _ e => e)
    go_wp2_with fail
    refine (add_full _ g _ _ _ _ w3 hF3 rfl _ _ _ (by first | omega | (simp; done) | (simp; omega)) (by first | omega | (simp; done) | (simp; omega))).mono ?_
    rintro e w4 ⟨rfl, ht4⟩
    have B4 := B3.trans (below_of_false ht4 B3.size)
    have hF4 := hF3.touch ht4 (fun _ _ e => e)
    try dsimp only at hF4
    go_wp2_with (go_at_call 12; refine (num_any _ _).mono ?_; rintro e w' ⟨rfl, rfl⟩)
    refine (bytes_up _ g _ _ _ _ w4 hF4 rfl (by first | omega | (simp; done) | (simp; omega))).mono ?_
    rintro e w5 ⟨v5, rfl, hr5, ht5⟩
    have B5 := B4.trans (below_of_false ht5 B4.size)
    have hF5 := hF4.touch ht5 (fun _ _ e => e)
    try dsimp only at hr5
    obtain ⟨a5, c5, rfl⟩ := reads_slice hr5
    clear hr5 ht5
    go_wp2_with fail
    obtain ⟨_, _, k2, _, _, _, k6⟩ := hF5.cells
    try dsimp only at k2 k6
    refine (swap_full g r w5 k2 k6 _ _ _ (by omega)).mono ?_
    rintro e w6 ⟨rfl, hw6⟩
    have B6 := B5
    have hF6 := hF5
    rw [hw6] at B6 hF6
    clear k2 k6 hw6
    clear hF5 B5
    go_wp2_with fail
    refine (bytes_up _ g _ _ _ _ w6 hF6 rfl (by first | omega | (simp; done) | (simp; omega))).mono ?_
    rintro e w7 ⟨v7, rfl, hr7, ht7⟩
    have B7 := B6.trans (below_of_false ht7 B6.size)
    have hF7 := hF6.touch ht7 (fun _ _ e => e)
    try dsimp only at hr7
    obtain ⟨a7, c7, rfl⟩ := reads_slice hr7
    have HB7 := Lib.hid (hV.trans (B7.mono hV.size))
    have hL := loose_any _ g _ _ _ _ w7 hF7
    clear hr7 ht7 hF6 B6 B7 hF7 rx ry hV ht1 B1 hF1 hg hF3 B3 hF4 B4
    go_wp2_with (first | (go_at_call 12; refine (num_any _ _).mono ?_; rintro e w' ⟨rfl, rfl⟩) | (go_at_call 13; refine hL.mono ?_; rintro e w' ⟨rfl, rfl⟩) | (go_at_call 8; refine (awake_any _).mono ?_; rintro e w8 ⟨rfl, hb⟩))
    all_goals (
      go_ret
      exact ⟨rfl, HB7.out.trans (hb.mono HB7.out.size)⟩)
  · have rx := X2; have ry := Y2; have hV := V2
    clear e1 e2 e3 e4 X1 Y1 V1 X2 Y2 V2
    go_wp2_with fail
    refine (new_any r 0 0 _).mono ?_
    rintro e w1 ⟨g, rfl, hg, hF1, ht1⟩
    have B1 := below_of_false ht1 (Nat.le_refl _)
    go_wp2_with fail
    refine (add_full _ g _ _ _ _ w1 hF1 rfl _ _ _ (by first | omega | (simp; done) | (simp; omega)) (by first | omega | (simp; done) | (simp; omega))).mono ?_
    rintro e w3 ⟨rfl, ht3⟩
    have B3 := B1.trans (below_of_false ht3 B1.size)
    have hF3 := hF1.touch ht3 (fun _ _ e => e)
    go_wp2_with fail
    refine (add_full _ g _ _ _ _ w3 hF3 rfl _ _ _ (by first | omega | (simp; done) | (simp; omega)) (by first | omega | (simp; done) | (simp; omega))).mono ?_
    rintro e w4 ⟨rfl, ht4⟩
    have B4 := B3.trans (below_of_false ht4 B3.size)
    have hF4 := hF3.touch ht4 (fun _ _ e => e)
    try dsimp only at hF4
    go_wp2_with (go_at_call 12; refine (num_any _ _).mono ?_; rintro e w' ⟨rfl, rfl⟩)
    refine (bytes_up _ g _ _ _ _ w4 hF4 rfl (by first | omega | (simp; done) | (simp; omega))).mono ?_
    rintro e w5 ⟨v5, rfl, hr5, ht5⟩
    have B5 := B4.trans (below_of_false ht5 B4.size)
    have hF5 := hF4.touch ht5 (fun _ _ e => e)
    try dsimp only at hr5
    obtain ⟨a5, c5, rfl⟩ := reads_slice hr5
    clear hr5 ht5
    go_wp2_with fail
    obtain ⟨_, _, k2, _, _, _, k6⟩ := hF5.cells
    try dsimp only at k2 k6
    refine (swap_full g r w5 k2 k6 _ _ _ (by omega)).mono ?_
    rintro e w6 ⟨rfl, hw6⟩
    have B6 := B5
    have hF6 := hF5
    rw [hw6] at B6 hF6
    clear k2 k6 hw6
    clear hF5 B5
    go_wp2_with fail
    refine (bytes_up _ g _ _ _ _ w6 hF6 rfl (by first | omega | (simp; done) | (simp; omega))).mono ?_
    rintro e w7 ⟨v7, rfl, hr7, ht7⟩
    have B7 := B6.trans (below_of_false ht7 B6.size)
    have hF7 := hF6.touch ht7 (fun _ _ e => e)
    try dsimp only at hr7
    obtain ⟨a7, c7, rfl⟩ := reads_slice hr7
    have HB7 := Lib.hid (hV.trans (B7.mono hV.size))
    have hL := loose_any _ g _ _ _ _ w7 hF7
    clear hr7 ht7 hF6 B6 B7 hF7 rx ry hV ht1 B1 hF1 hg hF3 B3 hF4 B4
    go_wp2_with (first | (go_at_call 12; refine (num_any _ _).mono ?_; rintro e w' ⟨rfl, rfl⟩) | (go_at_call 13; refine hL.mono ?_; rintro e w' ⟨rfl, rfl⟩) | (go_at_call 8; refine (awake_any _).mono ?_; rintro e w8 ⟨rfl, hb⟩))
    all_goals (
      go_ret
      exact ⟨rfl, HB7.out.trans (hb.mono HB7.out.size)⟩)

theorem fileFull_walk {W : World} (r : Int) (hr : (Lit.int .u8 r).wf = true) (a : Int) (ha : (Lit.int .u8 a).wf = true) (b : Int) (hb : (Lit.int .u8 b).wf = true) :
    Calls Try.prog 4 #[.int .u8 r, .int .u8 a, .int .u8 b] W fun e w' => e = .returned (.bool true) ∧ Below W.heap.size W w' := by
  obtain ⟨r0, r1⟩ := wf_u8 hr
  obtain ⟨a0, a1⟩ := wf_u8 ha
  obtain ⟨b0, b1⟩ := wf_u8 hb
  have hn : a.tmod 200 = ((a % 200).toNat : Int) := by rw [Int.tmod_eq_emod_of_nonneg a0]; omega
  have hm : b.tmod 200 = ((b % 200).toNat : Int) := by rw [Int.tmod_eq_emod_of_nonneg b0]; omega
  have h0 : (a % 200).toNat < 200 := by omega
  have h1 : (b % 200).toNat < 200 := by omega
  by_cases hA : ((a % 200).toNat : Int) ≤ r
  · by_cases hB : ((a % 200).toNat : Int) + ((b % 200).toNat : Int) ≤ r
    · exact fileFull_a r a b _ _ r0 r1 hn hm h0 h1 a0 a1 b0 b1 hA hB (by omega)
    · by_cases hC : ((b % 200).toNat : Int) ≤ r
      · exact fileFull_b r a b _ _ r0 r1 hn hm h0 h1 a0 a1 b0 b1 hA hB hC
      · exact fileFull_c r a b _ _ r0 r1 hn hm h0 h1 a0 a1 b0 b1 hA hB hC
  · by_cases hC : ((b % 200).toNat : Int) ≤ r
    · exact fileFull_d r a b _ _ r0 r1 hn hm h0 h1 a0 a1 b0 b1 hA hC
    · exact fileFull_e r a b _ _ r0 r1 hn hm h0 h1 a0 a1 b0 b1 hA hC

end Go.Proofs.Ythllhpjjoifnmaa
