/- The plain law of what is put into a text: no program in sight; and the law's walk, joined. No conditions. -/
import Derived.Test.YtfmhhahhomnkbaaPb
import Derived.Test.YtfmhhahhomnkbaaCavR
namespace Go.Proofs.Ytfmhhahhomnkbaa
open Go.RowKit Go.Cav

theorem repeat_nought : ∀ n, Lib.repeatL [0] n = List.replicate n (0 : UInt8)
  | 0 => rfl
  | n + 1 => by rw [Lib.repeatL, repeat_nought n, List.replicate_succ]; rfl

/-- the text with noughts behind it, up to k -/
def padL (s : List UInt8) (k : Nat) : List UInt8 := s ++ List.replicate (k - s.length) 0
/-- what Put makes -/
def putL (s : List UInt8) (k : Nat) (v : List UInt8) : List UInt8 := (padL s k).take k ++ v ++ (padL s k).drop (min (padL s k).length (k + v.length))

theorem padL_length (s : List UInt8) (k : Nat) : (padL s k).length = max s.length k := by
  unfold padL; rw [List.length_append, List.length_replicate]; omega
theorem putL_length (s : List UInt8) (k : Nat) (v : List UInt8) : (putL s k v).length = max s.length (k + v.length) := by
  have := padL_length s k
  unfold putL
  rw [List.length_append, List.length_append, List.length_take, List.length_drop]
  omega
theorem putL_mid (s : List UInt8) (k : Nat) (v : List UInt8) : ((putL s k v).drop k).take v.length = v := by
  have h := padL_length s k
  have ht : ((padL s k).take k).length = k := by rw [List.length_take]; omega
  unfold putL
  rw [List.append_assoc, List.drop_append_of_le_length (by omega), List.drop_eq_nil_of_le (by omega), List.nil_append, List.take_append_of_le_length (by omega), List.take_of_length_le (by omega)]
theorem putL_at (s : List UInt8) (k : Nat) (v : List UInt8) (j : Nat) (hj : j < (putL s k v).length) (hn : ¬ (k ≤ j ∧ j < k + v.length)) : (putL s k v)[j]? = some (if j < s.length then s[j]?.getD 0 else 0) := by
  have h := padL_length s k
  have hp : ∀ i, i < (padL s k).length → (padL s k)[i]? = some (if i < s.length then s[i]?.getD 0 else 0) := by
    intro i hi
    unfold padL
    by_cases hs : i < s.length
    · rw [List.getElem?_append_left hs, if_pos hs, List.getElem?_eq_getElem hs]; rfl
    · rw [List.getElem?_append_right (by omega), if_neg hs, List.getElem?_replicate, if_pos (by omega)]
  have ht : ((padL s k).take k).length = k := by rw [List.length_take]; omega
  rw [putL_length] at hj
  unfold putL
  by_cases hk : j < k
  · rw [List.append_assoc, List.getElem?_append_left (by omega), List.getElem?_take, if_pos hk]
    exact hp j (by omega)
  · rw [List.getElem?_append_right (by rw [List.length_append]; omega), List.getElem?_drop, List.length_append, ht]
    have e : min (padL s k).length (k + v.length) + (j - (k + v.length)) = j := by omega
    rw [e]
    exact hp j (by omega)
theorem putL_again (s : List UInt8) (k : Nat) (v : List UInt8) : putL (putL s k v) k v = putL s k v := by
  have hl := putL_length s k v
  have hp : padL (putL s k v) k = putL s k v := by
    unfold padL
    rw [show k - (putL s k v).length = 0 by omega, List.replicate_zero, List.append_nil]
  have hm := putL_mid s k v
  have e : min (putL s k v).length (k + v.length) = k + v.length := by omega
  have : putL (putL s k v) k v = (putL s k v).take k ++ v ++ (putL s k v).drop (k + v.length) := by
    rw [show putL (putL s k v) k v = (padL (putL s k v) k).take k ++ v ++ (padL (putL s k v) k).drop (min (padL (putL s k v) k).length (k + v.length)) from rfl, hp, e]
  rw [this]
  conv => rhs; rw [← List.take_append_drop k (putL s k v), ← List.take_append_drop v.length ((putL s k v).drop k), hm, List.drop_drop]
  rw [List.append_assoc]

theorem ba_append (a b : List UInt8) : (ByteArray.mk a.toArray) ++ (ByteArray.mk b.toArray) = ByteArray.mk (a ++ b).toArray := by
  apply ByteArray.ext; simp [ByteArray.data_append]
theorem ba_size (l : List UInt8) : (ByteArray.mk l.toArray).size = l.length := by simp [ByteArray.size]
theorem ba_extract (l : List UInt8) (a b : Nat) : (ByteArray.mk l.toArray).extract a b = ByteArray.mk ((l.drop a).take (b - a)).toArray := by
  apply ByteArray.ext
  rw [ByteArray.data_extract]
  simp
theorem ba_get (l : List UInt8) (j : Nat) : (ByteArray.mk l.toArray)[j]? = l[j]? := by
  by_cases h : j < l.length
  · rw [getElem?_pos _ _ (by rw [ba_size]; exact h), List.getElem?_eq_getElem h]; rfl
  · rw [getElem?_neg _ _ (by rw [ba_size]; exact h), List.getElem?_eq_none (by omega)]

theorem put_up (s v : List UInt8) (k : Nat) (w : World) (hs : s.length ≤ 300) (hv0 : (ByteArray.mk v.toArray).toList.isEmpty = false) (hv : k + v.length ≤ 300) :
    Calls Try.prog 7 #[.string ⟨s.toArray⟩, .int .i64 (k : Int), .string ⟨v.toArray⟩] w fun e w' => e = .returned (.tuple #[.string ⟨(putL s k v).toArray⟩, .bool true]) ∧ Below w.heap.size w w' := by
  have h := put_raw ⟨s.toArray⟩ ⟨v.toArray⟩ ⟨(List.replicate (k - s.length) 0).toArray⟩ ⟨(padL s k).toArray⟩ k (min (padL s k).length (k + v.length)) w (by rw [ba_size]; exact hs) hv0 (by rw [ba_size]; exact hv) (by rw [repeat_nought, ba_size])
    (by rw [ba_size, ba_size, List.length_replicate]) (by rw [ba_append]; rfl) (by rw [ba_size, ba_size])
  have e : (ByteArray.mk (padL s k).toArray).extract 0 k ++ (ByteArray.mk v.toArray) ++ (ByteArray.mk (padL s k).toArray).extract (min (padL s k).length (k + v.length)) (ByteArray.mk (padL s k).toArray).size = ⟨(putL s k v).toArray⟩ := by
    rw [ba_extract, ba_extract, ba_size, ba_append, ba_append, List.drop_zero, Nat.sub_zero]
    unfold putL
    rw [List.take_of_length_le (l := (padL s k).drop (min (padL s k).length (k + v.length))) (by rw [List.length_drop]; omega)]
  rw [e] at h
  exact h

set_option maxRecDepth 100000 in
set_option maxHeartbeats 1000000 in
theorem puts_long {W : World} (s v : ByteArray) (a : Int) (h : ¬ ((s.size : Int) ≤ 300 ∧ (v.size : Int) ≤ 300)) :
    Calls Try.prog 4 #[.string s, .int .u16 a, .string v] W fun e w' => e = .returned (.bool true) ∧ Below W.heap.size W w' := by
  by_cases h1 : (s.size : Int) ≤ 300
  · have h2 : ¬ (v.size : Int) ≤ 300 := fun e => h ⟨h1, e⟩
    clear h
    go_enter Try.func4, Try.ntmps4
    go_wp2_with (go_at_call 5; refine (awake_any _).mono ?_; rintro e w' ⟨rfl, rfl⟩)
    go_ret
    exact ⟨rfl, Below.refl _ _⟩
  · clear h
    go_enter Try.func4, Try.ntmps4
    go_wp2_with (go_at_call 5; refine (awake_any _).mono ?_; rintro e w' ⟨rfl, rfl⟩)
    go_ret
    exact ⟨rfl, Below.refl _ _⟩

set_option maxRecDepth 100000 in
set_option maxHeartbeats 1000000 in
theorem puts_far {W : World} (s v : ByteArray) (a : Int) (k : Nat) (hs : s.size ≤ 300) (hv : v.size ≤ 300) (ha : 0 ≤ a) (ha1 : a ≤ 65535) (hk : a.tmod 400 = (k : Int)) (hk1 : k < 400) (hf : ¬ (k : Int) + (v.size : Int) ≤ 300) :
    Calls Try.prog 4 #[.string s, .int .u16 a, .string v] W fun e w' => e = .returned (.bool true) ∧ Below W.heap.size W w' := by
  have i1 : (s.size : Int) ≤ 300 := by omega
  have i2 : (v.size : Int) ≤ 300 := by omega
  have hwa : IntKind.i64.wrap a = a := by rw [IntKind.wrap_i64]; omega
  have hw : IntKind.i64.wrap ((k : Int) + (v.size : Int)) = (k : Int) + (v.size : Int) := by rw [IntKind.wrap_i64]; omega
  have hp := fun w => put_far s v (k : Int) w (by omega) (by omega) hv (by omega)
  go_enter Try.func4, Try.ntmps4
  go_wp2_with (first
    | (go_at_call 7; refine (hp _).mono ?_; rintro e w' ⟨rfl, rfl⟩)
    | (go_at_call 5; refine (awake_any _).mono ?_; rintro e w' ⟨rfl, rfl⟩))
  go_ret
  exact ⟨rfl, Below.refl _ _⟩

set_option maxRecDepth 100000 in
set_option maxHeartbeats 1000000 in
theorem puts_none {W : World} (s : ByteArray) (a : Int) (k : Nat) (hs : s.size ≤ 300) (ha : 0 ≤ a) (ha1 : a ≤ 65535) (hk : a.tmod 400 = (k : Int)) (hf : (k : Int) ≤ 300) :
    Calls Try.prog 4 #[.string s, .int .u16 a, .string ⟨#[]⟩] W fun e w' => e = .returned (.bool true) ∧ Below W.heap.size W w' := by
  have i1 : (s.size : Int) ≤ 300 := by omega
  have hwa : IntKind.i64.wrap a = a := by rw [IntKind.wrap_i64]; omega
  have hw : IntKind.i64.wrap (k : Int) = (k : Int) := by rw [IntKind.wrap_i64]; omega
  have hp := fun w => put_none s (k : Int) w (by omega) hf
  go_enter Try.func4, Try.ntmps4
  go_wp2_with (first
    | (go_at_call 7; refine (hp _).mono ?_; rintro e w' ⟨rfl, rfl⟩)
    | (go_at_call 5; refine (awake_any _).mono ?_; rintro e w' ⟨rfl, rfl⟩))
  go_ret
  exact ⟨rfl, Below.refl _ _⟩

theorem ba_list (s : ByteArray) : ∃ l : List UInt8, s = ⟨l.toArray⟩ := ⟨s.data.toList, by cases s; simp⟩

theorem textPuts_walk {W : World} (s : ByteArray) (_ : s.size ≤ 140737488351232) (a : Int) (ha : (Lit.int .u16 a).wf = true) (v : ByteArray) (_ : v.size ≤ 140737488351232) :
    Calls Try.prog 4 #[.string s, .int .u16 a, .string v] W fun e w' => e = .returned (.bool true) ∧ Below W.heap.size W w' := by
  obtain ⟨a0, a1⟩ := wf_u16 ha
  have hk : a.tmod 400 = ((a % 400).toNat : Int) := by rw [Int.tmod_eq_emod_of_nonneg a0]; omega
  have hk1 : (a % 400).toNat < 400 := by omega
  generalize (a % 400).toNat = k at hk hk1
  by_cases hl : (s.size : Int) ≤ 300 ∧ (v.size : Int) ≤ 300
  · obtain ⟨h1, h2⟩ := hl
    by_cases hf : (k : Int) + (v.size : Int) ≤ 300
    · by_cases hv0 : v.toList.isEmpty = false
      · obtain ⟨sl, rfl⟩ := ba_list s
        obtain ⟨vl, rfl⟩ := ba_list v
        rw [ba_size] at h1 h2 hf
        have hlen := putL_length sl k vl
        have hag := putL_again sl k vl
        refine puts_mid ⟨sl.toArray⟩ ⟨vl.toArray⟩ ⟨(putL sl k vl).toArray⟩ a k (by rw [ba_size]; omega) (by rw [ba_size]; omega) a0 a1 hk hk1 (by rw [ba_size]; omega) hv0 (fun w => put_up sl vl k w (by omega) hv0 (by omega)) (fun w => ?_)
          (by rw [ba_size]; omega) (by rw [ba_size, ba_size, ba_size]; omega) ?_ (by rw [ba_size, ba_size]; omega) ?_
        · have := put_up (putL sl k vl) vl k w (by omega) hv0 (by omega)
          rw [hag] at this
          exact this
        · rw [ba_size, ba_extract, show k + vl.length - k = vl.length by omega, putL_mid]
        · intro j hj hn
          rw [ba_size] at hj hn
          refine ⟨_, by rw [ba_get, putL_at sl k vl j hj hn], fun h => ?_, fun h => ?_⟩
          · rw [ba_size] at h
            rw [ba_get, if_pos h, List.getElem?_eq_getElem h]; rfl
          · rw [ba_size] at h
            rw [if_neg h]
      · have : v = ⟨#[]⟩ := by
          obtain ⟨vl, rfl⟩ := ba_list v
          rw [Go.ByteArray.toList_mk] at hv0
          cases vl with
          | nil => rfl
          | cons x l => simp at hv0
        subst this
        exact puts_none s a k (by omega) a0 a1 hk (by have : ((ByteArray.mk #[]).size : Int) = 0 := rfl; omega)
    · exact puts_far s v a k (by omega) (by omega) a0 a1 hk hk1 hf
  · exact puts_long s v a hl

end Go.Proofs.Ytfmhhahhomnkbaa
