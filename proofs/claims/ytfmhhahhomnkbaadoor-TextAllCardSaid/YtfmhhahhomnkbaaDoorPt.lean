/- What text.Put and the document's Put answer. Condition: the texts' lengths below 10^9. -/
import Derived.Test.YtfmhhahhomnkbaaDoorProg
import Derived.Test.YtfmhhahhomnkbaaDoorCavBuf
import Derived.Test.YtfmhhahhomnkbaaDoorShelf
import Derived.Test.YtfmhhahhomnkbaaDoorPK
import Derived.Deep.QuietTactic
import Derived.BigQuiet
import Derived.Deep.DeepFit
import Derived.Lib.LazyBuf
namespace Go.Proofs.YtfmhhahhomnkbaaDoor
open Go.RowKit Go.Cav
attribute [local go_sem] Oper.semAt_some

/-- a text put into another one, noughts between -/
def putG (s v : List UInt8) (k : Nat) : List UInt8 := (s ++ List.replicate (k - s.length) 0).take k ++ v ++ (s ++ List.replicate (k - s.length) 0).drop (min (s ++ List.replicate (k - s.length) (0 : UInt8)).length (k + v.length))
def putB (s v : List UInt8) (k : Nat) : List UInt8 := (s ++ List.replicate (k + v.length - s.length) 0).take k ++ v ++ (s ++ List.replicate (k + v.length - s.length) 0).drop (k + v.length)
theorem put_same (s v : List UInt8) (k : Nat) : putG s v k = putB s v k := by
  unfold putG putB
  have e1 : (s ++ List.replicate (k - s.length) (0 : UInt8)).take k = (s ++ List.replicate (k + v.length - s.length) 0).take k := by
    rw [List.take_append, List.take_append, List.take_replicate, List.take_replicate]
    congr 2
    omega
  rw [e1]
  congr 1
  by_cases h : k + v.length ≤ s.length
  · have a : k - s.length = 0 := by omega
    have b : k + v.length - s.length = 0 := by omega
    rw [a, b]
    simp [Nat.min_eq_right h]
  · rw [List.drop_of_length_le (by simp; omega), List.drop_of_length_le (by simp; omega)]
/-- what is answered -/
def putP (s : ByteArray) (k : Int) (v : ByteArray) : Option ByteArray :=
  if k < 0 ∨ 300 < k ∨ 300 < k + (v.size : Int) then none else if v.size = 0 then some s else some ⟨(putB s.data.toList v.data.toList k.toNat).toArray⟩

theorem bytes_nil {s : ByteArray} (h : s.size = 0) : s = ⟨#[]⟩ := by
  cases s with
  | mk d => have : d.size = 0 := h; rw [Array.size_eq_zero_iff.1 this]
theorem toList_ne {v : ByteArray} (h : v.size ≠ 0) : v.toList.isEmpty = false := by
  rw [Go.Pk.toList_data]
  cases hd : v.data.toList with
  | nil => exact absurd (show v.size = 0 from by show v.data.size = 0; rw [← Array.length_toList, hd]; rfl) h
  | cons a l => rfl

set_option maxHeartbeats 800000 in
theorem put_raw (s v Z G : ByteArray) (k M : Nat) (w : World) (hs : s.size ≤ 1000000000) (hv0 : v.toList.isEmpty = false) (hv : k + v.size ≤ 300) (hZ : (⟨(Lib.repeatL [0] (k - s.size)).toArray⟩ : ByteArray) = Z) (hz : Z.size = k - s.size)
    (hG : s ++ Z = G) (hM : min G.size (k + v.size) = M) :
    Calls Tryd.prog 12 #[.string s, .int .i64 (k : Int), .string v] w fun e w' => e = .returned (.tuple #[.string (G.extract 0 k ++ v ++ G.extract M G.size), .bool true]) ∧ Below w.heap.size w w' := by
  have i0 : (k : Int) + (v.size : Int) ≤ 300 := by omega
  have hw : IntKind.i64.wrap ((k : Int) + (v.size : Int)) = (k : Int) + (v.size : Int) := by rw [IntKind.wrap_i64]; omega
  have hm : max 0 ((k : Int) - (s.size : Int)) = ((k - s.size : Nat) : Int) := by omega
  have hG0 : G.size = s.size + Z.size := by rw [← hG]; exact ByteArray.size_append
  have g1 : (k : Int) ≤ (G.size : Int) := by omega
  have g2 : G.size ≤ 1000000300 := by omega
  have hM' : min (G.size : Int) ((k : Int) + (v.size : Int)) = (M : Int) := by omega
  have g3 : (M : Int) ≤ (G.size : Int) := by omega
  have z1 : (G.extract 0 k).size = k := by rw [ByteArray.size_extract]; omega
  have z2 : (G.extract M G.size).size = G.size - M := by rw [ByteArray.size_extract]; omega
  have z3 : (G.extract 0 k ++ v).size = k + v.size := by rw [ByteArray.size_append, z1]
  have hzb : s.size + Z.size ≤ 1000000300 := by omega
  clear hG0 hz
  go_enter Tryd.func12, Tryd.ntmps12
  go_wp2_with fail
  refine (Tryd.strings_Repeat ⟨#[0]⟩ (k - s.size) _ (by omega) (by show 1 * (k - s.size) ≤ _; omega)).mono ?_
  rintro e w1 ⟨rfl, hb⟩
  have hb' := Lib.hid hb
  clear hb hm
  have hZ' : (⟨(Lib.repeatL (ByteArray.mk #[0]).data.toList (k - s.size)).toArray⟩ : ByteArray) = Z := hZ
  rw [hZ']
  clear hZ hZ'
  go_wp2_with fail
  go_region
  go_wp2
  go_ret2
  exact ⟨rfl, hb'.out.trans ((Stir.refl (fun _ => False) w1).drew.below hb'.out.size (fun _ e => e.elim))⟩

set_option maxHeartbeats 800000 in
theorem put_out (s v : ByteArray) (k : Int) (w : World) (hv : v.size ≤ 1000000000) (h : k < 0 ∨ 300 < k ∨ 300 < k + (v.size : Int)) :
    Calls Tryd.prog 12 #[.string s, .int .i64 k, .string v] w fun e w' => e = .returned (.tuple #[.string ⟨#[]⟩, .bool false]) ∧ w = w' := by
  by_cases h0 : k < 0
  · go_enter Tryd.func12, Tryd.ntmps12
    go_wp2
    go_ret2
    exact ⟨rfl, rfl⟩
  · by_cases h1 : 300 < k
    · have h0' : 0 ≤ k := by omega
      go_enter Tryd.func12, Tryd.ntmps12
      go_wp2
      go_ret2
      exact ⟨rfl, rfl⟩
    · have hw : IntKind.i64.wrap (k + (v.size : Int)) = k + (v.size : Int) := by rw [IntKind.wrap_i64]; omega
      have h0' : 0 ≤ k := by omega
      have h1' : k ≤ 300 := by omega
      have h2' : 300 < k + (v.size : Int) := by omega
      go_enter Tryd.func12, Tryd.ntmps12
      go_wp2
      go_ret2
      exact ⟨rfl, rfl⟩

set_option maxHeartbeats 400000 in
theorem put_none (s : ByteArray) (k : Int) (w : World) (h0 : 0 ≤ k) (h1 : k ≤ 300) :
    Calls Tryd.prog 12 #[.string s, .int .i64 k, .string ⟨#[]⟩] w fun e w' => e = .returned (.tuple #[.string s, .bool true]) ∧ w = w' := by
  go_enter Tryd.func12, Tryd.ntmps12
  go_wp2
  go_ret2
  exact ⟨rfl, rfl⟩

theorem repeat_noughts : ∀ n : Nat, Lib.repeatL [0] n = List.replicate n (0 : UInt8) := by
  intro n
  induction n with
  | zero => rfl
  | succ n ih => simp [Lib.repeatL, ih, List.replicate_succ]

theorem put_any (s v : ByteArray) (k : Int) (w : World) (hs : s.size ≤ 1000000000) (hv : v.size ≤ 1000000000) :
    Calls Tryd.prog 12 #[.string s, .int .i64 k, .string v] w fun e w' => e = .returned (.tuple #[.string ((putP s k v).getD ⟨#[]⟩), .bool (putP s k v).isSome]) ∧ Below w.heap.size w w' := by
  unfold putP
  by_cases h : k < 0 ∨ 300 < k ∨ 300 < k + (v.size : Int)
  · rw [if_pos h]
    refine (put_out s v k w hv h).mono ?_
    rintro e w' ⟨rfl, rfl⟩
    exact ⟨rfl, Below.refl _ _⟩
  · rw [if_neg h]
    by_cases hz : v.size = 0
    · rw [if_pos hz, bytes_nil hz]
      refine (put_none s k w (by omega) (by omega)).mono ?_
      rintro e w' ⟨rfl, rfl⟩
      exact ⟨rfl, Below.refl _ _⟩
    · rw [if_neg hz]
      obtain ⟨n, rfl⟩ := Int.eq_ofNat_of_zero_le (show 0 ≤ k by omega)
      obtain ⟨Z, hZ⟩ : ∃ Z : ByteArray, Z = ⟨(Lib.repeatL [0] (n - s.size)).toArray⟩ := ⟨_, rfl⟩
      have hzd : Z.data.toList = List.replicate (n - s.size) 0 := by rw [hZ]; show (Lib.repeatL [0] (n - s.size)) = _; exact repeat_noughts _
      have hz1 : Z.size = n - s.size := by show Z.data.size = _; rw [← Array.length_toList, hzd, List.length_replicate]
      have hsl : s.data.toList.length = s.size := by rw [Array.length_toList]; rfl
      have hvl : v.data.toList.length = v.size := by rw [Array.length_toList]; rfl
      refine (put_raw s v Z (s ++ Z) n (min (s ++ Z).size (n + v.size)) w hs (toList_ne hz) (by omega) hZ.symm hz1 rfl rfl).mono ?_
      rintro e w' ⟨rfl, hb⟩
      refine ⟨?_, hb⟩
      have key : (s ++ Z).extract 0 n ++ v ++ (s ++ Z).extract (min (s ++ Z).size (n + v.size)) (s ++ Z).size = ⟨(putB s.data.toList v.data.toList n).toArray⟩ := by
        have hgd : (s ++ Z).data.toList = s.data.toList ++ List.replicate (n - s.data.toList.length) 0 := by
          rw [ByteArray.data_append, Array.toList_append, hzd, hsl]
        have hgs : (s ++ Z).size = (s.data.toList ++ List.replicate (n - s.data.toList.length) (0 : UInt8)).length := by
          rw [← hgd, Array.length_toList]; rfl
        refine Go.Pk.toList_inj ?_
        rw [Go.Pk.toList_data, Go.Pk.toList_data, ← put_same]
        show _ = putG s.data.toList v.data.toList n
        unfold putG
        rw [ByteArray.data_append, ByteArray.data_append, Array.toList_append, Array.toList_append, ByteArray.data_extract, ByteArray.data_extract, Array.toList_extract, Array.toList_extract, hgs, hgd, hvl]
        simp only [List.extract_eq_take_drop, List.drop_zero, Nat.sub_zero]
        congr 1
        rw [List.take_of_length_le (by rw [List.length_drop]; exact Nat.le_refl _)]
      rw [key]
      rfl
end Go.Proofs.YtfmhhahhomnkbaaDoor
