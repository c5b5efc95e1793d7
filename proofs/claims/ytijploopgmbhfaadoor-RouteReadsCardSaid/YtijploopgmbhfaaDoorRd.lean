/- What route.Read answers. Condition: the text's length below 10^6. -/
import Derived.Test.YtijploopgmbhfaaDoorRt
namespace Go.Proofs.YtijploopgmbhfaaDoor
open Go.RowKit Go.Cav
attribute [local go_sem] Oper.semAt_some
def readP (s : ByteArray) : ByteArray × Int × Int :=
  match pieces s with
  | [f0, f1, f2] => readV s f0 f1 f2
  | _ => (⟨#[]⟩, 0, 0)
theorem piece_size (s : ByteArray) (p : ByteArray) (h : p ∈ pieces s) : p.size ≤ s.size := by
  have h1 : p.data.toList ∈ (pieces s).map (·.data.toList) := List.mem_map_of_mem h
  rw [pieces_data] at h1
  have := cutAt_len 32 _ _ h1
  rw [Array.length_toList, Array.length_toList] at this
  exact this
theorem beq_yes {f : ByteArray} {l : List UInt8} (h : f = ⟨l.toArray⟩) : (f.toList == l) = true := by rw [h, Go.Pk.toList_data]; simp
theorem beq_not {f : ByteArray} {l : List UInt8} (h : ¬ f = ⟨l.toArray⟩) : (f.toList == l) = false := by
  rw [beq_eq_false_iff_ne]; intro e; exact h (Go.Pk.toList_inj (by rw [e, Go.Pk.toList_data]))
set_option maxRecDepth 100000 in
set_option maxHeartbeats 4000000 in
theorem read_few (s : ByteArray) (hs : s.size ≤ 1000000) (w : World) (hW : Wd w) (h : (pieces s).length ≠ 3) :
    Calls Tryd.prog 14 #[.string s] w fun e w' => e = .returned (.tuple #[.string ⟨#[]⟩, .int .i64 0, .int .i64 0]) ∧ Below w.heap.size w w' := by
  obtain ⟨m, hm⟩ := hW.most
  have hS := Tryd.strings_Split s ⟨#[32]⟩ m w (by omega) hm (by decide)
  rw [pieces_length] at h
  generalize Lib.countB s ⟨#[32]⟩ = n at hS h
  have h3 : ¬ (((n + 1 : Nat) : Int) = 3) := by omega
  have h3' : ¬ ((n : Int) + 1 = 3) := by omega
  go_enter Tryd.func14, Tryd.ntmps14
  go_wp2_with (go_at_call 35; refine hS.mono ?_; rintro e w1 ⟨rfl, hw1⟩; have hb : Below w.heap.size w w1 := by { rw [hw1]; exact ((Below.refl _ w).alloc (Nat.le_refl _) _) }; clear hw1)
  go_ret3
  exact ⟨rfl, hb⟩
set_option maxRecDepth 100000 in
set_option maxHeartbeats 4000000 in
theorem read_three (s f0 f1 f2 : ByteArray) (hs : s.size ≤ 1000000) (w : World) (hW : Wd w) (h : pieces s = [f0, f1, f2]) :
    Calls Tryd.prog 14 #[.string s] w fun e w' => e = .returned (.tuple #[.string (readV s f0 f1 f2).1, .int .i64 (readV s f0 f1 f2).2.1, .int .i64 (readV s f0 f1 f2).2.2]) ∧ Below w.heap.size w w' := by
  obtain ⟨m, hm⟩ := hW.most
  have hS := Tryd.strings_Split s ⟨#[32]⟩ m w (by omega) hm (by decide)
  have hn : Lib.countB s ⟨#[32]⟩ + 1 = 3 := by rw [← pieces_length, h]; rfl
  have hp : Lib.splitB ⟨#[32]⟩ 0 (Lib.countB s ⟨#[32]⟩) s = [f0, f1, f2] := h
  rw [hp, hn] at hS
  have z0 := piece_size s f0 (by rw [h]; simp)
  have z1 := piece_size s f1 (by rw [h]; simp)
  have z2 := piece_size s f2 (by rw [h]; simp)
  clear h hn hp hm
  have hA1 : ∀ w1, Below w.heap.size w w1 → Calls Tryd.prog 36 #[.string f1] w1 fun e w' => ∃ ev, e = .returned (.tuple #[.int .i64 (atoiV f1), ev]) ∧ Below w1.heap.size w1 w' := fun w1 hb => atoi_any f1 (by omega) w1 (hW.of hb)
  have hA2 : ∀ w1, Below w.heap.size w w1 → Calls Tryd.prog 36 #[.string f2] w1 fun e w' => ∃ ev, e = .returned (.tuple #[.int .i64 (atoiV f2), ev]) ∧ Below w1.heap.size w1 w' := fun w1 hb => atoi_any f2 (by omega) w1 (hW.of hb)
  have b1 := atoiV_bounds f1
  have b2 := atoiV_bounds f2
  have hT : ∀ w1, Below w.heap.size w w1 → Calls Tryd.prog 28 #[.string f0, .int .i64 (atoiV f1), .int .i64 (atoiV f2)] w1 fun e w' => e = .returned (.string (f0 ++ ⟨#[32]⟩ ++ itoaB (atoiV f1) ++ ⟨#[32]⟩ ++ itoaB (atoiV f2))) ∧ Below w1.heap.size w1 w' := fun w1 hb => sent_any f0 _ _ (by omega) b1.1 b1.2 b2.1 b2.2 w1 (hW.of hb)
  obtain ⟨r, hr⟩ : ∃ r, r = readV s f0 f1 f2 := ⟨_, rfl⟩
  rw [← hr]
  unfold readV at hr
  generalize atoiV f1 = a at hA1 hT b1 hr
  generalize atoiV f2 = b at hA2 hT b2 hr
  generalize f0 ++ (⟨#[32]⟩ : ByteArray) ++ itoaB a ++ (⟨#[32]⟩ : ByteArray) ++ itoaB b = t at hT hr
  have HR := Lib.hid hr
  clear hr
  go_enter Tryd.func14, Tryd.ntmps14
  go_upto_region 2 with (go_at_call 35; refine hS.mono ?_; rintro e w1 ⟨rfl, hw1⟩; have hb : Below w.heap.size w w1 := by { rw [hw1]; exact ((Below.refl _ w).alloc (Nat.le_refl _) _) }; have hbk : w1.heap[w.heap.size]? = some (.cells #[.string f0, .string f1, .string f2] 9 (0, 0)) := by { rw [hw1]; exact heap_alloc_new w _ }; clear hw1)
  have c0 : w1.cell? ⟨w.heap.size, 0, none⟩ = some (.string f0) := (cell_of_row w1 _ 0 _ _ _ hbk).trans rfl
  have c1 : w1.cell? ⟨w.heap.size, 1, none⟩ = some (.string f1) := (cell_of_row w1 _ 1 _ _ _ hbk).trans rfl
  have c2 : ∀ w2, Below w1.heap.size w1 w2 → w2.cell? ⟨w.heap.size, 2, none⟩ = some (.string f2) := fun w2 h => (Stir.of_below h (fun _ => False)).cell ((cell_of_row w1 _ 2 _ _ _ hbk).trans rfl) (fun e => e)
  have c00 : ∀ w2, Below w1.heap.size w1 w2 → w2.cell? ⟨w.heap.size, 0, none⟩ = some (.string f0) := fun w2 h => (Stir.of_below h (fun _ => False)).cell c0 (fun e => e)
  have C2 := Lib.hid c2
  have C0 := Lib.hid c00
  clear c2 c00 hbk hS
  have HA1 := Lib.hid hA1
  have HA2 := Lib.hid hA2
  have HT := Lib.hid hT
  clear hA1 hA2 hT
  have hcs : a < 0 ∨ (0 ≤ a ∧ 16384 ≤ a) ∨ (0 ≤ a ∧ a < 16384 ∧ b < 0) ∨ (0 ≤ a ∧ a < 16384 ∧ 0 ≤ b ∧ 8 ≤ b) ∨ (0 ≤ a ∧ a < 16384 ∧ 0 ≤ b ∧ b < 8) := by omega
  have HCS := Lib.hid hcs
  clear hcs b1 b2 hW
  by_cases hM : f0 = ⟨#[77, 79, 86, 69, 68]⟩
  · have q1 := beq_yes hM
    have HM := Lib.hid hM
    clear hM
    go_wp2_with fail
    refine (HA1.out _ hb).mono ?_
    rintro e w2 ⟨ev1, rfl, h2⟩
    have hb2 := hb.trans (h2.mono hb.size)
    have d2 := C2.out w2 h2
    have H2 := Lib.hid h2
    have HB := Lib.hid hb
    have HB2 := Lib.hid hb2
    clear HA1 h2 hb hb2 c0 c1
    go_wp2_with fail
    refine (HA2.out _ HB2.out).mono ?_
    rintro e w3 ⟨ev2, rfl, h3⟩
    have HB3 := Lib.hid (HB2.out.trans (h3.mono HB2.out.size))
    have d0 := C0.out w3 (H2.out.trans (h3.mono H2.out.size))
    have H3 := Lib.hid (H2.out.trans (h3.mono H2.out.size))
    clear HA2 h3 d2
    rcases HCS.out with k1 | ⟨k0, k1⟩ | ⟨k0, k1, k2⟩ | ⟨k0, k1, k2, k3⟩ | ⟨k0, k1, k2, k3⟩
    · go_wp2_with fail
      go_ret3
      exact ⟨by rw [HR.out, if_neg (fun h => by omega)] <;> rfl, HB3.out⟩
    · go_wp2_with fail
      go_ret3
      exact ⟨by rw [HR.out, if_neg (fun h => by omega)] <;> rfl, HB3.out⟩
    · go_wp2_with fail
      go_ret3
      exact ⟨by rw [HR.out, if_neg (fun h => by omega)] <;> rfl, HB3.out⟩
    · go_wp2_with fail
      go_ret3
      exact ⟨by rw [HR.out, if_neg (fun h => by omega)] <;> rfl, HB3.out⟩
    · go_wp2_with fail
      refine (HT.out _ HB3.out).mono ?_
      rintro e w4 ⟨rfl, h4⟩
      have HB4 := Lib.hid (HB3.out.trans (h4.mono HB3.out.size))
      have e0 := C0.out w4 (H3.out.trans (h4.mono H3.out.size))
      clear h4 HT
      by_cases ht : t = s
      · have q3 : (t.toList == s.toList) = true := by rw [ht]; exact beq_self_eq_true _
        go_wp2_with fail
        go_ret3
        exact ⟨by rw [HR.out, if_pos ⟨.inl HM.out, k0, k1, k2, k3, ht⟩] <;> rfl, HB4.out⟩
      · have q3 : (t.toList == s.toList) = false := by rw [beq_eq_false_iff_ne]; exact fun e => ht (Go.Pk.toList_inj e)
        go_wp2_with fail
        go_ret3
        exact ⟨by rw [HR.out, if_neg (fun h => ht h.2.2.2.2.2)] <;> rfl, HB4.out⟩
  · have q1 := beq_not hM
    by_cases hK : f0 = ⟨#[65, 83, 75]⟩
    · have q2 := beq_yes hK
      have HK := Lib.hid hK
      clear hK
      go_wp2_with fail
      refine (HA1.out _ hb).mono ?_
      rintro e w2 ⟨ev1, rfl, h2⟩
      have hb2 := hb.trans (h2.mono hb.size)
      have d2 := C2.out w2 h2
      have H2 := Lib.hid h2
      have HB := Lib.hid hb
      have HB2 := Lib.hid hb2
      clear HA1 h2 hb hb2 c0 c1
      go_wp2_with fail
      refine (HA2.out _ HB2.out).mono ?_
      rintro e w3 ⟨ev2, rfl, h3⟩
      have HB3 := Lib.hid (HB2.out.trans (h3.mono HB2.out.size))
      have d0 := C0.out w3 (H2.out.trans (h3.mono H2.out.size))
      have H3 := Lib.hid (H2.out.trans (h3.mono H2.out.size))
      clear HA2 h3 d2
      rcases HCS.out with k1 | ⟨k0, k1⟩ | ⟨k0, k1, k2⟩ | ⟨k0, k1, k2, k3⟩ | ⟨k0, k1, k2, k3⟩
      · go_wp2_with fail
        go_ret3
        exact ⟨by rw [HR.out, if_neg (fun h => by omega)] <;> rfl, HB3.out⟩
      · go_wp2_with fail
        go_ret3
        exact ⟨by rw [HR.out, if_neg (fun h => by omega)] <;> rfl, HB3.out⟩
      · go_wp2_with fail
        go_ret3
        exact ⟨by rw [HR.out, if_neg (fun h => by omega)] <;> rfl, HB3.out⟩
      · go_wp2_with fail
        go_ret3
        exact ⟨by rw [HR.out, if_neg (fun h => by omega)] <;> rfl, HB3.out⟩
      · go_wp2_with fail
        refine (HT.out _ HB3.out).mono ?_
        rintro e w4 ⟨rfl, h4⟩
        have HB4 := Lib.hid (HB3.out.trans (h4.mono HB3.out.size))
        have e0 := C0.out w4 (H3.out.trans (h4.mono H3.out.size))
        clear h4 HT
        by_cases ht : t = s
        · have q3 : (t.toList == s.toList) = true := by rw [ht]; exact beq_self_eq_true _
          go_wp2_with fail
          go_ret3
          exact ⟨by rw [HR.out, if_pos ⟨.inr HK.out, k0, k1, k2, k3, ht⟩] <;> rfl, HB4.out⟩
        · have q3 : (t.toList == s.toList) = false := by rw [beq_eq_false_iff_ne]; exact fun e => ht (Go.Pk.toList_inj e)
          go_wp2_with fail
          go_ret3
          exact ⟨by rw [HR.out, if_neg (fun h => ht h.2.2.2.2.2)] <;> rfl, HB4.out⟩
    · have q2 := beq_not hK
      go_wp2_with fail
      go_ret3
      exact ⟨by rw [HR.out, if_neg (fun h => h.1.elim hM hK)] <;> rfl, hb⟩
theorem read_any (s : ByteArray) (hs : s.size ≤ 1000000) (w : World) (hW : Wd w) :
    Calls Tryd.prog 14 #[.string s] w fun e w' => e = .returned (.tuple #[.string (readP s).1, .int .i64 (readP s).2.1, .int .i64 (readP s).2.2]) ∧ Below w.heap.size w w' := by
  by_cases h : (pieces s).length = 3
  · obtain ⟨f0, f1, f2, h3⟩ : ∃ f0 f1 f2, pieces s = [f0, f1, f2] := by
      match hp : pieces s, h with
      | [a, b, c], _ => exact ⟨a, b, c, rfl⟩
    have e : readP s = readV s f0 f1 f2 := by unfold readP; rw [h3]
    rw [e]
    exact read_three s f0 f1 f2 hs w hW h3
  · have e : readP s = (⟨#[]⟩, 0, 0) := by
      unfold readP
      split
      · rename_i h3; rw [h3] at h; exact absurd rfl h
      · rfl
    rw [e]
    exact read_few s hs w hW h
end Go.Proofs.YtijploopgmbhfaaDoor
