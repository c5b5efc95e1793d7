/- Plain laws about commands: what the document's functions come to. No conditions. -/
import Derived.Test.YtjdpmjpfhcdcfaaG5
import Derived.Test.YtjdpmjpfhcdcfaaPK
namespace Go.Proofs.Ytjdpmjpfhcdcfaa.Pure
open Go.RowKit Go.Pk Go.Proofs.Ytjdpmjpfhcdcfaa.G Go.Proofs.YtjdpmjpfhcdcfaaW.PrintWords Go.Proofs.YtjdpmjpfhcdcfaaW.PrintLast

def res (o : Option SpecV) : ByteArray × Int × Int × Int × Int × Int × Bool × Bool := tupS (o.getD zeroS) o.isSome
theorem upper_eq (s : ByteArray) (h : s.size ≤ 1000) : caravanref1_Upper.f s = some (upB s) := by
  unfold caravanref1_Upper.f; exact if_pos (by omega)
theorem find_l0 (s : ByteArray) (hs : s.size ≤ 1000) (L : List SpecV) (hL : L.length ≤ 1000) : ∀ (d i k : Nat), i + d = L.length → d + 1 ≤ k →
    caravanref1_Find.l0 k s (L.map toS) (i : Int) = some (res ((L.drop i).find? (fun x => x.nm.toList == (upB s).toList)))
  | 0, i, k, hi, hk => by
    obtain ⟨k, rfl⟩ : ∃ k', k = k' + 1 := ⟨k - 1, by omega⟩
    unfold caravanref1_Find.l0
    rw [if_neg (by rw [List.length_map]; omega), List.drop_of_length_le (by omega)]
    rfl
  | d + 1, i, k, hi, hk => by
    obtain ⟨k, rfl⟩ : ∃ k', k = k' + 1 := ⟨k - 1, by omega⟩
    have hlt : i < L.length := by omega
    have hrd : rd_T26 (L.map toS) (i : Int) = toS L[i] := by
      unfold rd_T26
      rw [Int.toNat_natCast, List.getD_eq_getElem?_getD, List.getElem?_map, List.getElem?_eq_getElem hlt]; rfl
    unfold caravanref1_Find.l0
    rw [if_pos (by rw [List.length_map]; omega), if_pos (by omega), upper_eq s hs, Option.bind_some, hrd, List.drop_eq_getElem_cons hlt, List.find?_cons]
    by_cases hq : (L[i]).nm.toList = (upB s).toList
    · rw [if_pos (show (toS L[i]).f0.toList = _ from hq), show ((L[i]).nm.toList == (upB s).toList) = true from by rw [beq_iff_eq]; exact hq]
      rfl
    · rw [if_neg (show ¬ (toS L[i]).f0.toList = _ from hq), show ((L[i]).nm.toList == (upB s).toList) = false from by rw [beq_eq_false_iff_ne]; exact hq]
      rw [w64 (by omega) (by omega)]
      exact find_l0 s hs L hL d (i + 1) k (by omega) (by omega)
theorem upB_size (s : ByteArray) : (upB s).size = s.size := by
  show ((s.data.toList.map upC).toArray).size = _
  rw [List.size_toArray, List.length_map, Array.length_toList]; rfl
theorem names_short : specL.all (fun x => decide (x.nm.size ≤ 20)) = true := by decide +kernel
theorem find_long (s : ByteArray) (h : 20 < s.size) : findP s = none := by
  unfold findP
  rw [List.find?_eq_none]
  intro x hx e
  have h1 := List.all_eq_true.1 names_short x hx
  rw [decide_eq_true_eq] at h1
  have h2 := congrArg List.length (beq_iff_eq.1 e)
  rw [toList_length, toList_length, upB_size] at h2
  omega
theorem find_f (s : ByteArray) (hs : s.size ≤ 1000) (k : Nat) (hk : 60 ≤ k) : caravanref1_Find.f k s = some (res (findP s)) := by
  unfold caravanref1_Find.f
  by_cases h : 20 < s.size
  · rw [if_pos (by omega), find_long s h]; rfl
  · rw [if_neg (by omega)]
    show caravanref1_Find.l0 k s (specL.map toS) ((0 : Nat) : Int) = _
    rw [find_l0 s hs specL (by rw [specL_length]; omega) 54 0 k (by rw [specL_length]) (by omega)]
    rfl

theorem keys_l0 (s : SpecV) (ws zs : List ByteArray) (f st : Nat) (h : KeysAre s ws zs f st) (a0 : ByteArray) (a1 a2 a3 a4 : Int) (a6 : Bool) : ∀ (d j k : Nat) (acc : List ByteArray), j + d = zs.length → d + 1 ≤ k → acc.length + d ≤ 10000 →
    caravanref1_keys.l0 k ws acc (keyTo s ws.length) ((f + j * st : Nat) : Int) a0 a1 a2 a3 a4 (st : Int) a6 = some (acc ++ zs.drop j)
  | 0, j, k, acc, hj, hk, ha => by
    obtain ⟨k, rfl⟩ : ∃ k', k = k' + 1 := ⟨k - 1, by omega⟩
    have hj' : j = zs.length := by omega
    subst hj'
    unfold caravanref1_keys.l0
    rw [List.drop_of_length_le (Nat.le_refl _), List.append_nil]
    rcases Nat.eq_zero_or_pos f with h0 | h0
    · subst h0
      have hz : zs = [] := by
        cases zs with
        | nil => rfl
        | cons z t => exact absurd (h.at_ 0 z rfl).1 (by omega)
      subst hz
      rw [if_neg (by simp)]
    · have := h.end_ h0
      split
      · rw [if_neg (by omega)]
      · rfl
  | d + 1, j, k, acc, hj, hk, ha => by
    obtain ⟨k, rfl⟩ : ∃ k', k = k' + 1 := ⟨k - 1, by omega⟩
    have hlt : j < zs.length := by omega
    obtain ⟨g1, g2, g3⟩ := h.at_ j zs[j] (List.getElem?_eq_getElem hlt)
    have hq := (List.getElem?_eq_some_iff.1 g3).1
    have hb := h.bound
    have hst := h.stle
    unfold caravanref1_keys.l0
    rw [if_pos (by omega), if_pos g2, if_pos (by omega), if_pos (by omega), if_pos (by omega), rdOf_get _ _ _ _ g3]
    have e : wrap64 (((f + j * st : Nat) : Int) + (st : Int)) = ((f + (j + 1) * st : Nat) : Int) := by
      rw [w64 (by omega) (by omega), Nat.succ_mul]; omega
    rw [e, keys_l0 s ws zs f st h a0 a1 a2 a3 a4 a6 d (j + 1) k (acc ++ [zs[j]]) (by omega) (by omega) (by rw [List.length_append, List.length_singleton]; omega)]
    rw [List.drop_eq_getElem_cons hlt, List.append_assoc]; rfl
theorem keys_f (s : SpecV) (ws zs : List ByteArray) (f st : Nat) (h : KeysAre s ws zs f st) (hz : zs.length ≤ 300) (k : Nat) (hk : 400 ≤ k) :
    caravanref1_keys.f k s.nm s.least s.most s.first s.last s.step s.wr ws = some zs := by
  obtain ⟨k, rfl⟩ : ∃ k', k = k' + 1 := ⟨k - 1, by omega⟩
  have hb := h.bound
  have hl := h.low
  have hto := h.upto
  have key : caravanref1_keys.j0 (k + 1) ws ([] : List ByteArray) (keyTo s ws.length) s.nm s.least s.most s.first s.last s.step s.wr = some zs := by
    show caravanref1_keys.l0 k ws [] (keyTo s ws.length) s.first s.nm s.least s.most s.first s.last s.step s.wr = some zs
    have := keys_l0 s ws zs f st h s.nm s.least s.most s.first s.last s.wr zs.length 0 k [] (by omega) (by omega) (by simp; omega)
    rw [h.step]
    rw [Nat.zero_mul, Nat.add_zero, ← h.first] at this
    rw [this]; rfl
  unfold caravanref1_keys.f
  unfold keyTo at key hto
  split
  · rename_i hn
    rw [if_pos hn] at key hto
    rw [w64 (by omega) (by omega), Int.add_comm]; exact key
  · rename_i hn
    rw [if_neg hn] at key
    exact key
theorem check_l0 (s : SpecV) (zs : List ByteArray) (hz : zs.length ≤ 300) : ∀ (d i k : Nat), i + d = zs.length → d + 1 ≤ k →
    caravanref1_Check.l0 k zs (i : Int) s.nm s.least s.most s.first s.last s.step s.wr = some (res (if (zs.drop i).all (fun x => decide (x.size ≤ 40)) = true then some s else none))
  | 0, i, k, hi, hk => by
    obtain ⟨k, rfl⟩ : ∃ k', k = k' + 1 := ⟨k - 1, by omega⟩
    unfold caravanref1_Check.l0
    rw [if_neg (by omega), List.drop_of_length_le (by omega)]
    rfl
  | d + 1, i, k, hi, hk => by
    obtain ⟨k, rfl⟩ : ∃ k', k = k' + 1 := ⟨k - 1, by omega⟩
    have hlt : i < zs.length := by omega
    unfold caravanref1_Check.l0
    rw [if_pos (by omega), if_pos (by omega), rdOf_at _ _ _ hlt, List.drop_eq_getElem_cons hlt, List.all_cons]
    by_cases hq : (zs[i]).size ≤ 40
    · rw [if_neg (by omega), w64 (by omega) (by omega), decide_eq_true hq, Bool.true_and]
      exact check_l0 s zs hz d (i + 1) k (by omega) (by omega)
    · rw [if_pos (by omega), decide_eq_false hq, Bool.false_and]; rfl
end Go.Proofs.Ytjdpmjpfhcdcfaa.Pure
