/- The law of what is put into a text: its walk. No conditions. -/
import Derived.Test.YtfmhhahhomnkbaaPa
namespace Go.Proofs.Ytfmhhahhomnkbaa
open Go.RowKit Go.Cav

set_option maxRecDepth 100000 in
set_option maxHeartbeats 4000000 in
theorem puts_mid {W : World} (s v T : ByteArray) (a : Int) (k : Nat) (hs : s.size ≤ 300) (hv : v.size ≤ 300) (ha : 0 ≤ a) (ha1 : a ≤ 65535) (hk : a.tmod 400 = (k : Int)) (hk1 : k < 400) (hf : k + v.size ≤ 300) (hv0 : v.toList.isEmpty = false)
    (hp : ∀ w, Calls Try.prog 7 #[.string s, .int .i64 (k : Int), .string v] w fun e w' => e = .returned (.tuple #[.string T, .bool true]) ∧ Below w.heap.size w w')
    (hp2 : ∀ w, Calls Try.prog 7 #[.string T, .int .i64 (k : Int), .string v] w fun e w' => e = .returned (.tuple #[.string T, .bool true]) ∧ Below w.heap.size w w')
    (hT : T.size ≤ 300) (hTs : max (s.size : Int) ((k : Int) + (v.size : Int)) = (T.size : Int)) (hTx : T.extract k (k + v.size) = v) (hTk : k + v.size ≤ T.size)
    (hTi : ∀ j, j < T.size → ¬ (k ≤ j ∧ j < k + v.size) → ∃ b : UInt8, T[j]? = some b ∧ (j < s.size → s[j]? = some b) ∧ (¬ j < s.size → b = 0)) :
    Calls Try.prog 4 #[.string s, .int .u16 a, .string v] W fun e w' => e = .returned (.bool true) ∧ Below W.heap.size W w' := by
  have i1 : (s.size : Int) ≤ 300 := by omega
  have i2 : (v.size : Int) ≤ 300 := by omega
  have i3 : (k : Int) + (v.size : Int) ≤ 300 := by omega
  have hwa : IntKind.i64.wrap a = a := by rw [IntKind.wrap_i64]; omega
  have hw : IntKind.i64.wrap ((k : Int) + (v.size : Int)) = (k : Int) + (v.size : Int) := by rw [IntKind.wrap_i64]; omega
  have i4 : (0 : Int) ≤ (k : Int) ∧ (k : Int) ≤ (k : Int) + (v.size : Int) ∧ (k : Int) + (v.size : Int) ≤ (T.size : Int) := by omega
  have i5 : T.extract k ((k : Int) + (v.size : Int)).toNat = v := by
    have e : ((k : Int) + (v.size : Int)).toNat = k + v.size := by omega
    rw [e]; exact hTx
  have i6 : (k : Int) + (v.size : Int) ≤ (T.size : Int) := by omega
  go_enter Try.func4, Try.ntmps4
  go_wp2_with fail
  refine (hp _).mono ?_
  rintro e w1 ⟨rfl, hb1⟩
  have HB := Lib.hid hb1
  clear hb1 hp
  go_wp2_with fail
  clear hTs hTx hv0 hk hwa
  go_loopw [10] (fun i wr => ∃ j : Nat, j ≤ T.size ∧ i = .int .i64 (j : Int) ∧ Below W.heap.size W wr) (fun i _ => (T.size - intOf i).toNat)
  case atStart => exact ⟨0, by omega, rfl, HB.out⟩
  case round =>
    obtain ⟨j, hj, rfl, hI⟩ := hrel
    clear HB
    have HI := Lib.hid hI
    clear hI
    by_cases hjt : j < T.size
    · have j1 : (j : Int) < (T.size : Int) := by omega
      have j0 : (0 : Int) ≤ (j : Int) := by omega
      by_cases hin : (k : Int) ≤ (j : Int) ∧ (j : Int) < (k : Int) + (v.size : Int)
      · obtain ⟨q1, q2⟩ := hin
        go_wp2_with fail
        go_roundw
        case rel => exact ⟨j + 1, by omega, by simp, HI.out⟩
        case measure => simp [intOf]; omega
      · obtain ⟨b, eT, eS, eZ⟩ := hTi j hjt (fun h => hin ⟨by omega, by omega⟩)
        have eTj : T[j]'hjt = b := by have := getElem?_pos T j hjt; rw [eT] at this; exact (Option.some.inj this).symm
        by_cases hjs : j < s.size
        · have q3 : (j : Int) < (s.size : Int) := by omega
          have eSj : s[j]'hjs = b := by have := getElem?_pos s j hjs; rw [eS hjs] at this; exact (Option.some.inj this).symm
          clear eZ eS eT hTi
          by_cases q1 : (k : Int) ≤ (j : Int)
          · have q2 : ¬ (j : Int) < (k : Int) + (v.size : Int) := fun h => hin ⟨q1, h⟩
            clear hin
            go_wp2_with fail
            have q5 : ¬ s.size ≤ j := by omega
            have q6 : decide (s.size ≤ j) = false := by rw [decide_eq_false_iff_not]; omega
            go_region
            go_wp2_with fail
            go_roundw
            case rel => exact ⟨j + 1, by omega, by simp, HI.out.trans ((Stir.refl (fun _ => False) wr).drew.below HI.out.size (fun _ e => e.elim))⟩
            case measure => simp [intOf]; omega
          · clear hin
            go_wp2_with fail
            have q5 : ¬ s.size ≤ j := by omega
            have q6 : decide (s.size ≤ j) = false := by rw [decide_eq_false_iff_not]; omega
            go_region
            go_wp2_with fail
            go_roundw
            case rel => exact ⟨j + 1, by omega, by simp, HI.out.trans ((Stir.refl (fun _ => False) wr).drew.below HI.out.size (fun _ e => e.elim))⟩
            case measure => simp [intOf]; omega
        · have q3 : ¬ (j : Int) < (s.size : Int) := by omega
          obtain rfl := eZ hjs
          clear eS eT hTi
          by_cases q1 : (k : Int) ≤ (j : Int)
          · have q2 : ¬ (j : Int) < (k : Int) + (v.size : Int) := fun h => hin ⟨q1, h⟩
            clear hin
            go_wp2_with fail
            go_region
            go_wp2_with fail
            go_roundw
            case rel => exact ⟨j + 1, by omega, by simp, HI.out.trans ((Stir.refl (fun _ => False) wr).drew.below HI.out.size (fun _ e => e.elim))⟩
            case measure => simp [intOf]; omega
          · clear hin
            go_wp2_with fail
            go_region
            go_wp2_with fail
            go_roundw
            case rel => exact ⟨j + 1, by omega, by simp, HI.out.trans ((Stir.refl (fun _ => False) wr).drew.below HI.out.size (fun _ e => e.elim))⟩
            case measure => simp [intOf]; omega
    · obtain rfl : j = T.size := by omega
      clear hTi
      go_wp2_with (first
        | (go_at_call 7; refine (hp2 _).mono ?_; rintro e w2 ⟨rfl, hb2⟩)
        | (go_at_call 5; refine (awake_any _).mono ?_; rintro e w' ⟨rfl, rfl⟩))
      go_ret
      exact ⟨rfl, HI.out.trans (hb2.mono HI.out.size)⟩

end Go.Proofs.Ytfmhhahhomnkbaa
