/- The law of what a fall keeps: its walk. No conditions. -/
import Derived.StillTailTactics
import Derived.Test.YthllhpjjoifnmaaGa
import Derived.Test.YthllhpjjoifnmaaCavR
namespace Go.Proofs.Ythllhpjjoifnmaa
open Go.RowKit Go.Cav

/-- an argument's bytes read in every later world -/
theorem arg_reads {W w : World} {v : Value} {n : Nat} {xs : List Value} (h : Reads W 1 v n xs) (hb : Below W.heap.size W w) {S : Nat → Prop} (hS : ∀ k, S k → W.heap.size ≤ k) (hw : W.heap.size ≤ w.heap.size) : ∀ w', Stir S w w' → Reads w' 1 v n xs := by
  intro w' ht
  exact h.below (hb.trans (ht.below hw hS))

set_option maxRecDepth 100000 in
set_option maxHeartbeats 1000000 in
theorem fileKeeps_big {W : World} (a b c : Option Addr) (n m l n' m' l' : Nat) (k : Int) (h : ¬ ((n : Int) ≤ 200 ∧ (m : Int) ≤ 200 ∧ (l : Int) ≤ 200)) :
    Calls Try.prog 3 #[.slice a n n', .slice b m m', .slice c l l', .int .i64 k] W fun e w' => e = .returned (.bool true) ∧ Below W.heap.size W w' := by
  by_cases h1 : 200 < (n : Int)
  · go_enter Try.func3, Try.ntmps3
    go_wp2_with (go_at_call 8; refine (awake_any _).mono ?_; rintro e w5 ⟨rfl, hb⟩)
    go_ret
    exact ⟨rfl, hb⟩
  · have h1' : (n : Int) ≤ 200 := by omega
    by_cases h2 : 200 < (m : Int)
    · clear h
      go_enter Try.func3, Try.ntmps3
      go_wp2_with (go_at_call 8; refine (awake_any _).mono ?_; rintro e w5 ⟨rfl, hb⟩)
      go_ret
      exact ⟨rfl, hb⟩
    · have h2' : (m : Int) ≤ 200 := by omega
      have h3 : 200 < (l : Int) := by omega
      clear h
      go_enter Try.func3, Try.ntmps3
      go_wp2_with (go_at_call 8; refine (awake_any _).mono ?_; rintro e w5 ⟨rfl, hb⟩)
      go_ret
      exact ⟨rfl, hb⟩

set_option maxRecDepth 100000 in
set_option maxHeartbeats 1000000 in
theorem fileKeeps_small {W : World} (a b c : Value) (x y z : List UInt8) (ha : Reads W 1 a x.length (x.map B8)) (hb : Reads W 1 b y.length (y.map B8)) (hc : Reads W 1 c z.length (z.map B8)) (h1 : x.length ≤ 200) (h2 : y.length ≤ 200) (h3 : z.length ≤ 200)
    (k : Int) (hk : k ≤ 9223372036854775807) :
    Calls Try.prog 3 #[a, b, c, .int .i64 k] W fun e w' => e = .returned (.bool true) ∧ Below W.heap.size W w' := by
  obtain ⟨a0, ca, rfl⟩ := reads_slice ha
  obtain ⟨b0, cb, rfl⟩ := reads_slice hb
  obtain ⟨c0, cc, rfl⟩ := reads_slice hc
  have i1 : (x.length : Int) ≤ 200 := by omega
  have i2 : (y.length : Int) ≤ 200 := by omega
  have i3 : (z.length : Int) ≤ 200 := by omega
  go_enter Try.func3, Try.ntmps3
  go_wp2_with fail
  refine (new_any 1000 0 0 W).mono ?_
  rintro e w1 ⟨g, rfl, hg, hF1, ht1⟩
  have B1 := below_of_false ht1 (Nat.le_refl _)
  go_wp2_with fail
  refine (add_up W.heap.size g _ _ _ _ w1 hF1 rfl _ x (arg_reads ha B1 (fun k h => h.1) B1.size) (by simp; omega) (by simp; omega) (by simp) (by simp) (by simp)).mono ?_
  rintro e w2 ⟨rfl, hs2⟩
  have B2 := B1.trans (step_below hs2 B1.size (fun k h => h.1))
  obtain ⟨S2, sv2, lv2, hF2, _, _, _⟩ := hs2
  have hS2 : ∀ k, S2 k → W.heap.size ≤ k := fun k e => (hF2.from_ k e).1
  go_wp2_with fail
  refine (sync_up W.heap.size g _ _ _ _ w2 hF2 rfl (by simp; omega) (by simp) (by simp) (by simp)).mono ?_
  rintro e w3 ⟨rfl, hs3⟩
  have B3 := B2.trans (step_below hs3 B2.size hS2)
  obtain ⟨S3, sv3, lv3, hF3, _, _, _⟩ := hs3
  have hS3 : ∀ k, S3 k → W.heap.size ≤ k := fun k e => (hF3.from_ k e).1
  go_wp2_with fail
  refine (add_up W.heap.size g _ _ _ _ w3 hF3 rfl _ y (arg_reads hb B3 hS3 B3.size) (by simp; omega) (by simp; omega) (by simp) (by simp) (by simp)).mono ?_
  rintro e w4 ⟨rfl, hs4⟩
  have B4 := B3.trans (step_below hs4 B3.size hS3)
  obtain ⟨S4, sv4, lv4, hF4, _, _, _⟩ := hs4
  have hS4 : ∀ k, S4 k → W.heap.size ≤ k := fun k e => (hF4.from_ k e).1
  go_wp2_with fail
  refine (add_up W.heap.size g _ _ _ _ w4 hF4 rfl _ z (arg_reads hc B4 hS4 B4.size) (by simp; omega) (by simp; omega) (by simp) (by simp) (by simp)).mono ?_
  rintro e w5 ⟨rfl, hs5⟩
  have B5 := B4.trans (step_below hs5 B4.size hS4)
  obtain ⟨S5, sv5, lv5, hF5, _, _, _⟩ := hs5
  have hS5 : ∀ k, S5 k → W.heap.size ≤ k := fun k e => (hF5.from_ k e).1
  have va := run_string_reads (P := Try.prog) w5 22 9 5 _ x Try.underlying22 Try.underlying5 Try.underlying9 (ha.below B5)
  have vb := run_string_reads (P := Try.prog) w5 22 9 5 _ y Try.underlying22 Try.underlying5 Try.underlying9 (hb.below B5)
  have vc := run_string_reads (P := Try.prog) w5 22 9 5 _ z Try.underlying22 Try.underlying5 Try.underlying9 (hc.below B5)
  clear hF1 hF2 hF3 hF4 B1 B2 B3 B4 ht1 hS2 hS3 hS4
  dsimp only at hF5
  have e5 : ((([] ++ x : List UInt8) ++ y) ++ z).length = x.length + y.length + z.length := by simp; omega
  go_wp2_with (first
    | (go_at_call 12; refine (num_any _ _).mono ?_; rintro e w' ⟨rfl, rfl⟩)
    | (go_at_call 13; refine (loose_any _ g _ _ _ _ w5 hF5).mono ?_; rintro e w' ⟨rfl, rfl⟩))
  obtain ⟨K, hK⟩ : ∃ K, kept (([] ++ y : List UInt8) ++ z).length k = K := ⟨_, rfl⟩
  refine (fall_any _ g _ _ _ _ 1000 0 k w5 hF5 (by simp; omega) hk).mono ?_
  rintro e w6 ⟨rfl, hs6⟩
  have B6 := B5.trans (step_below hs6 B5.size hS5)
  obtain ⟨S6, sv6, lv6, hF6, _, _, _⟩ := hs6
  dsimp only at hF6
  rw [hK] at hF6
  have hKl : K ≤ y.length + z.length := by have := kept_le (([] ++ y : List UInt8) ++ z).length k; rw [hK] at this; simpa using this
  have e6 : (([] ++ ([] ++ x)) ++ (([] ++ y : List UInt8) ++ z).take K) ++ [] = (x ++ y ++ z).take (x.length + K) := by
    rw [List.append_assoc x y z, List.take_length_add_append]; simp
  clear hF5 hS5
  go_wp2_with fail
  refine (bytes_up _ g _ _ _ _ w6 hF6 rfl (by simp; omega)).mono ?_
  rintro e w7 ⟨v, rfl, hr, ht7⟩
  have B7 := B6.trans (below_of_false ht7 B6.size)
  dsimp only at hr
  rw [e6] at hr
  have hF7 := hF6.touch ht7 (fun _ _ e => e)
  clear ht7 hF6 B5 B6 va vb vc ha hb hc e5 e6
  go_wp2_with fail
  obtain ⟨T, hT⟩ : ∃ T : ByteArray, (({ data := x.toArray } : ByteArray) ++ { data := y.toArray } ++ { data := z.toArray }) = T := ⟨_, rfl⟩
  rw [hT]
  have hTs : T.size = x.length + y.length + z.length := by rw [← hT]; simp [ByteArray.size]; omega
  have hTe : T.extract 0 (x.length + K) = ⟨((x ++ y ++ z).take (x.length + K)).toArray⟩ := by
    apply ByteArray.ext
    rw [ByteArray.data_extract, ← hT]
    simp [ByteArray.data_append]
  have hcv := run_string_reads (P := Try.prog) w7.drew 22 9 5 v _ Try.underlying22 Try.underlying5 Try.underlying9 hr
  obtain ⟨s, hs⟩ : ∃ s : ByteArray, (⟨((x ++ y ++ z).take (x.length + K)).toArray⟩ : ByteArray) = s := ⟨_, rfl⟩
  rw [hs] at hTe hcv
  have hL := fun w' (h : Stir (fun _ => False) w7 w') => loose_any _ g _ _ _ _ w' (hF7.touch h (fun _ _ e => e))
  have HB7 := Lib.hid (B7.trans (below_of_false (Stir.refl (fun _ => False) w7).drew B7.size))
  have HT := Lib.hid hTs
  clear hr hT hs hF7 B7 hTs
  have hts : x.length + K ≤ T.size := by rw [HT.out]; omega
  have hw1 : IntKind.i64.wrap ((y.length : Int) + (z.length : Int) + 1) = (y.length : Int) + (z.length : Int) + 1 := by rw [IntKind.wrap_i64]; omega
  have hw2 : ¬ ((y.length : Int) + (z.length : Int) + 1 = 0) := by omega
  have hw3 : (if 0 < k then k else 0).tmod ((y.length : Int) + (z.length : Int) + 1) = (K : Int) := by
    rw [← hK]
    unfold kept
    by_cases h : 0 < k
    · rw [if_pos h, if_neg (by omega), Int.tmod_eq_emod_of_nonneg (by omega)]
      have := Int.emod_nonneg k hw2
      simp
      omega
    · rw [if_neg h, if_pos (by omega)]; simp
  have hw4 : IntKind.i64.wrap ((x.length : Int) + (K : Int)) = (x.length : Int) + (K : Int) := by rw [IntKind.wrap_i64]; omega
  have hw5 : 0 ≤ (x.length : Int) + (K : Int) ∧ (x.length : Int) + (K : Int) ≤ (T.size : Int) := ⟨by omega, by omega⟩
  have hw6 : T.extract 0 ((x.length : Int) + (K : Int)).toNat = s := by rw [← hTe]; congr 1
  clear hK hTe hts
  go_still_tail 24, (by kernel_rfl)
  change wpStill _ _ w7.drew _ _ _
  still_call ((num_any _ _).mono fun e w' ⟨a, b⟩ => ⟨a, b.symm⟩)
  repeat still_step
  still_call ((hL _ ((Stir.refl _ _).drew)).mono fun e w' ⟨a, b⟩ => ⟨a, b.symm⟩)
  repeat still_step
  refine wpStill_nil ?_
  change wpList _ _ _ _ _ w7.drew
  go_wp2_with (go_at_call 8; refine (awake_any _).mono ?_; rintro e w8 ⟨rfl, hb⟩)
  all_goals (
    go_ret
    exact ⟨rfl, HB7.out.trans (hb.mono HB7.out.size)⟩)

theorem fileKeeps_walk {W : World} (a : Value) (x : List UInt8) (ha : rSlice 1 1 rByte W [a] x) (b : Value) (y : List UInt8) (hb : rSlice 1 1 rByte W [b] y) (c : Value) (z : List UInt8) (hc : rSlice 1 1 rByte W [c] z)
    (k : Int) (hk : (Lit.int .i64 k).wf = true) :
    Calls Try.prog 3 #[a, b, c, .int .i64 k] W fun e w' => e = .returned (.bool true) ∧ Below W.heap.size W w' := by
  have ra := ha.bytes.1
  have rb := hb.bytes.1
  have rc := hc.bytes.1
  have hk' := (wf_i64 hk).2
  clear ha hb hc
  by_cases h : (x.length : Int) ≤ 200 ∧ (y.length : Int) ≤ 200 ∧ (z.length : Int) ≤ 200
  · exact fileKeeps_small a b c x y z ra rb rc (by omega) (by omega) (by omega) k (by omega)
  · obtain ⟨a0, ca, rfl⟩ := reads_slice ra
    obtain ⟨b0, cb, rfl⟩ := reads_slice rb
    obtain ⟨c0, cc, rfl⟩ := reads_slice rc
    exact fileKeeps_big a0 b0 c0 _ _ _ ca cb cc k h

end Go.Proofs.Ythllhpjjoifnmaa
