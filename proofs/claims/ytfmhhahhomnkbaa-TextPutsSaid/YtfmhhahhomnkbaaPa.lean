/- What the functions of texts do: contracts. Conditions: the bounds that each names. -/
import Derived.Test.YtfmhhahhomnkbaaProg
import Derived.Test.YtfmhhahhomnkbaaCavA
import Derived.Test.YtfmhhahhomnkbaaShelf
import Derived.Deep.QuietTactic
import Derived.BigQuiet
import Derived.Deep.DeepFit
namespace Go.Proofs.Ytfmhhahhomnkbaa
open Go.RowKit Go.Cav

set_option maxHeartbeats 400000 in
theorem range_awake (w : World) : Calls Try.prog 8 #[.int .i64 3, .int .i64 (-2), .int .i64 (-1)] w fun e w' => e = .returned (.tuple #[.int .i64 1, .int .i64 3]) ∧ w = w' := by
  go_enter Try.func8, Try.ntmps8
  go_wp2
  go_ret2
  exact ⟨rfl, rfl⟩

set_option maxHeartbeats 400000 in
theorem sub_awake (w : World) : Calls Try.prog 6 #[.string ⟨#[97, 98, 99]⟩, .int .i64 (-2), .int .i64 (-1)] w fun e w' => e = .returned (.string ⟨#[98, 99]⟩) ∧ w = w' := by
  go_enter Try.func6, Try.ntmps6
  go_wp2_with (go_at_call 8; refine (range_awake _).mono ?_; rintro e w' ⟨rfl, rfl⟩)
  go_ret
  exact ⟨rfl, rfl⟩

set_option maxHeartbeats 400000 in
theorem awake_any (w : World) : Calls Try.prog 5 #[] w fun e w' => e = .returned (.bool true) ∧ w = w' := by
  go_enter Try.func5, Try.ntmps5
  go_wp2_with (go_at_call 6; refine (sub_awake _).mono ?_; rintro e w' ⟨rfl, rfl⟩)
  go_ret
  exact ⟨rfl, rfl⟩

set_option maxHeartbeats 400000 in
theorem put_far (s v : ByteArray) (k : Int) (w : World) (h0 : 0 ≤ k) (h1 : k ≤ 400) (hv : v.size ≤ 300) (h : 300 < k + (v.size : Int)) :
    Calls Try.prog 7 #[.string s, .int .i64 k, .string v] w fun e w' => e = .returned (.tuple #[.string ⟨#[]⟩, .bool false]) ∧ w = w' := by
  have hv' : (v.size : Int) ≤ 300 := by omega
  have hw : IntKind.i64.wrap (k + (v.size : Int)) = k + (v.size : Int) := by rw [IntKind.wrap_i64]; omega
  by_cases hk : 300 < k
  · go_enter Try.func7, Try.ntmps7
    go_wp2
    go_ret2
    exact ⟨rfl, rfl⟩
  · go_enter Try.func7, Try.ntmps7
    go_wp2
    go_ret2
    exact ⟨rfl, rfl⟩

set_option maxHeartbeats 400000 in
theorem put_none (s : ByteArray) (k : Int) (w : World) (h0 : 0 ≤ k) (h1 : k ≤ 300) :
    Calls Try.prog 7 #[.string s, .int .i64 k, .string ⟨#[]⟩] w fun e w' => e = .returned (.tuple #[.string s, .bool true]) ∧ w = w' := by
  go_enter Try.func7, Try.ntmps7
  go_wp2
  go_ret2
  exact ⟨rfl, rfl⟩

set_option maxHeartbeats 800000 in
theorem put_raw (s v Z G : ByteArray) (k M : Nat) (w : World) (hs : s.size ≤ 300) (hv0 : v.toList.isEmpty = false) (hv : k + v.size ≤ 300) (hZ : (⟨(Lib.repeatL [0] (k - s.size)).toArray⟩ : ByteArray) = Z) (hz : Z.size = k - s.size)
    (hG : s ++ Z = G) (hM : min G.size (k + v.size) = M) :
    Calls Try.prog 7 #[.string s, .int .i64 (k : Int), .string v] w fun e w' => e = .returned (.tuple #[.string (G.extract 0 k ++ v ++ G.extract M G.size), .bool true]) ∧ Below w.heap.size w w' := by
  have i0 : (k : Int) + (v.size : Int) ≤ 300 := by omega
  have hw : IntKind.i64.wrap ((k : Int) + (v.size : Int)) = (k : Int) + (v.size : Int) := by rw [IntKind.wrap_i64]; omega
  have hm : max 0 ((k : Int) - (s.size : Int)) = ((k - s.size : Nat) : Int) := by omega
  have hG0 : G.size = s.size + Z.size := by rw [← hG]; exact ByteArray.size_append
  have g1 : (k : Int) ≤ (G.size : Int) := by omega
  have g2 : G.size ≤ 600 := by omega
  have hM' : min (G.size : Int) ((k : Int) + (v.size : Int)) = (M : Int) := by omega
  have g3 : (M : Int) ≤ (G.size : Int) := by omega
  have z1 : (G.extract 0 k).size = k := by rw [ByteArray.size_extract]; omega
  have z2 : (G.extract M G.size).size = G.size - M := by rw [ByteArray.size_extract]; omega
  have z3 : (G.extract 0 k ++ v).size = k + v.size := by rw [ByteArray.size_append, z1]
  have hzb : s.size + Z.size ≤ 600 := by omega
  clear hG0 hz
  go_enter Try.func7, Try.ntmps7
  go_wp2_with fail
  refine (Try.strings_Repeat ⟨#[0]⟩ (k - s.size) _ (by omega) (by show 1 * (k - s.size) ≤ _; omega)).mono ?_
  rintro e w1 ⟨rfl, hb⟩
  have hb' := Lib.hid hb
  clear hb hm
  have hZ' : (⟨(Lib.repeatL (ByteArray.mk #[0]).data.toList (k - s.size)).toArray⟩ : ByteArray) = Z := hZ
  rw [hZ']
  clear hZ hZ'
  go_wp2_with fail
  go_region
  go_wp2
  go_ret2
  exact ⟨rfl, hb'.out.trans ((Stir.refl (fun _ => False) w1).drew.below hb'.out.size (fun _ e => e.elim))⟩

end Go.Proofs.Ytfmhhahhomnkbaa
