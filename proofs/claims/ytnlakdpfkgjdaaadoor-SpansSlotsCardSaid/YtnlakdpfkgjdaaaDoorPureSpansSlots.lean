/- The plain law of SpansSlots. No conditions. -/
import Derived.Test.YtnlakdpfkgjdaaaDoorG11
import Derived.Test.YtnlakdpfkgjdaaaDoorPAw
import Derived.Test.YtnlakdpfkgjdaaaDoorCavR
namespace Go.Proofs.YtnlakdpfkgjdaaaDoor.Pure
open Go.RowKit Go.Proofs.YtnlakdpfkgjdaaaDoor.G Go.Proofs.YtnlakdpfkgjdaaaDoorW.PrintWords Go.Proofs.YtnlakdpfkgjdaaaDoorW.PrintLast
abbrev Sp := S31
/-- how many from c on hold -/
def cntN (p : Int → Bool) : Int → Nat → Int
  | _, 0 => 0
  | c, n + 1 => (if p c = true then 1 else 0) + cntN p (c + 1) n
/-- how many from c on hold where the one ahead doesn't -/
def endN (p : Int → Bool) : Int → Nat → Int
  | _, 0 => 0
  | c, n + 1 => (if p c = true ∧ p (c - 1) = false then 1 else 0) + endN p (c + 1) n
theorem cnt_app (p : Int → Bool) : ∀ (n m : Nat) (c : Int), cntN p c (n + m) = cntN p c n + cntN p (c + n) m
  | 0, m, c => by simp [cntN]
  | n + 1, m, c => by
    rw [show n + 1 + m = (n + m) + 1 by omega, cntN, cntN, cnt_app p n m (c + 1), show c + 1 + (n : Int) = c + ((n + 1 : Nat) : Int) by omega]; omega
theorem end_app (p : Int → Bool) : ∀ (n m : Nat) (c : Int), endN p c (n + m) = endN p c n + endN p (c + n) m
  | 0, m, c => by simp [endN]
  | n + 1, m, c => by
    rw [show n + 1 + m = (n + m) + 1 by omega, endN, endN, end_app p n m (c + 1), show c + 1 + (n : Int) = c + ((n + 1 : Nat) : Int) by omega]; omega
theorem cnt_no (p : Int → Bool) : ∀ (n : Nat) (c : Int), (∀ i, c ≤ i → i < c + n → p i = false) → cntN p c n = 0 ∧ endN p c n = 0
  | 0, c, _ => ⟨rfl, rfl⟩
  | n + 1, c, h => by
    obtain ⟨h1, h2⟩ := cnt_no p n (c + 1) fun i a b => h i (by omega) (by omega)
    have h0 := h c (by omega) (by omega)
    rw [cntN, endN, h1, h2, if_neg (by rw [h0]; simp), if_neg (by rw [h0]; simp)]
    exact ⟨rfl, rfl⟩
theorem cnt_yes (p : Int → Bool) : ∀ (n : Nat) (c : Int), (∀ i, c - 1 ≤ i → i < c + n → p i = true) → cntN p c n = n ∧ endN p c n = 0
  | 0, c, _ => ⟨rfl, rfl⟩
  | n + 1, c, h => by
    obtain ⟨h1, h2⟩ := cnt_yes p n (c + 1) fun i a b => h i (by omega) (by omega)
    have h0 := h c (by omega) (by omega)
    have h3 := h (c - 1) (by omega) (by omega)
    rw [cntN, endN, h1, h2, if_pos h0, if_neg (by rw [h3]; simp)]
    exact ⟨by omega, by omega⟩
/-- a run of slots: its first counts as an end -/
theorem cnt_run (p : Int → Bool) (n : Nat) (c : Int) (h0 : p (c - 1) = false) (h : ∀ i, c ≤ i → i < c + n + 1 → p i = true) : cntN p c (n + 1) = n + 1 ∧ endN p c (n + 1) = 1 := by
  obtain ⟨h1, h2⟩ := cnt_yes p n (c + 1) fun i a b => h i (by omega) (by omega)
  rw [cntN, endN, h1, h2, if_pos (h c (by omega) (by omega)), if_pos ⟨h c (by omega) (by omega), h0⟩]
  exact ⟨by omega, by omega⟩
theorem cnt_list : ∀ (m : List Sp) (c : Int) (n : Nat) (p : Int → Bool), mayF (c - 1) m → (∀ s ∈ m, s.f1 + 2 ≤ c + n) → (∀ i, c - 1 ≤ i → p i = hasS m i) → cntN p c n = widS m ∧ endN p c n = (m.length : Int)
  | [], c, n, p, _, _, h => cnt_no p n c fun i a _ => (h i (by omega)).trans rfl
  | s :: r, c, n, p, ⟨h1, h2, h3, h4⟩, hb, h => by
    have hs := hb s (by simp)
    have low := fun i => mayF_has h4 i
    have hp0 : ∀ i, c - 1 ≤ i → i < s.f0 → p i = false := fun i a b => by
      rw [h i a, hasS_cons, decide_eq_false (by omega), Bool.false_and, Bool.false_or]
      cases k : hasS r i with
      | false => rfl
      | true => have := low i k; omega
    have hp1 : ∀ i, s.f0 ≤ i → i ≤ s.f1 → p i = true := fun i a b => by
      rw [h i (by omega), hasS_cons, decide_eq_true a, decide_eq_true b]; rfl
    have hp2 : ∀ i, s.f1 < i → p i = hasS r i := fun i a => by
      rw [h i (by omega), hasS_cons, decide_eq_false (show ¬ i ≤ s.f1 by omega), Bool.and_false, Bool.false_or]
    obtain ⟨g, hg⟩ : ∃ g : Nat, (g : Int) = s.f0 - c := ⟨(s.f0 - c).toNat, by omega⟩
    obtain ⟨d, hd⟩ : ∃ d : Nat, (d : Int) = s.f1 - s.f0 := ⟨(s.f1 - s.f0).toNat, by omega⟩
    obtain ⟨q, hq⟩ : ∃ q : Nat, n = g + ((d + 1) + (1 + q)) := ⟨n - (g + ((d + 1) + 1)), by omega⟩
    obtain ⟨a1, a2⟩ := cnt_no p g c fun i a b => hp0 i (by omega) (by omega)
    obtain ⟨b1, b2⟩ := cnt_run p d (c + g) (hp0 _ (by omega) (by omega)) fun i a b => hp1 i (by omega) (by omega)
    obtain ⟨c1, c2⟩ := cnt_no p 1 (c + g + (d + 1 : Nat)) fun i a b => by
      rw [hp2 i (by omega)]
      cases k : hasS r i with
      | false => rfl
      | true => have := low i k; omega
    obtain ⟨d1, d2⟩ := cnt_list r (c + g + (d + 1 : Nat) + (1 : Nat)) q p (mayF_mono (by omega) h4) (fun t ht => by have := hb t (by simp [ht]); omega) fun i a => hp2 i (by omega)
    rw [hq, cnt_app p g, cnt_app p (d + 1), cnt_app p 1 q, end_app p g, end_app p (d + 1), end_app p 1 q, a1, a2, b1, b2, c1, c2, d1, d2]
    exact ⟨by show _ = s.f1 - s.f0 + 1 + widS r; omega, by rw [List.length_cons]; omega⟩
/-- which slots stand in a list of numbers -/
def key (x : Int) : Int := Int.tmod x 200
def spanK (x : Int) : Sp := ⟨key x, key x⟩
def inB (p : Int → Bool) : List Bool := (List.range 202).map fun i : Nat => p ((i : Int) - 1)
theorem inB_len (p : Int → Bool) : (inB p).length = 202 := by simp [inB]
theorem inB_at (p : Int → Bool) (j : Int) (h0 : 0 ≤ j) (h1 : j < 202) : rdOf false (inB p) j = p (j - 1) := by
  unfold rdOf inB
  obtain ⟨m, rfl⟩ : ∃ m : Nat, j = m := ⟨j.toNat, by omega⟩
  rw [Int.toNat_natCast, List.getD_eq_getElem?_getD, List.getElem?_map, List.getElem?_range (by omega)]
  rfl
theorem key_in (x : Int) (h : (Lit.int .u16 x).wf = true) : 0 ≤ key x ∧ key x < 200 ∧ wrap64 x = x := by
  have hx := Go.Cav.wf_u16 h
  unfold key
  refine ⟨Int.tmod_nonneg _ hx.1, ?_, w64 _ (by omega) (by omega)⟩
  rw [Int.tmod_eq_emod_of_nonneg hx.1]; omega
theorem in_set (L : List Sp) (x : Int) (h0 : 0 ≤ key x) (h1 : key x < 200) : (inB (hasS L)).set (key x + 1).toNat true = inB (hasS (L ++ [spanK x])) := by
  refine List.ext_getElem (by simp [inB]) fun i h2 h3 => ?_
  have hi : i < 202 := by simpa [inB] using h3
  rw [List.getElem_set]
  simp only [inB, List.getElem_map, List.getElem_range]
  rw [hasS_app]
  show _ = (_ || (decide (key x ≤ (i : Int) - 1) && decide ((i : Int) - 1 ≤ key x) || false))
  by_cases c : (key x + 1).toNat = i
  · rw [if_pos c, decide_eq_true (show key x ≤ (i : Int) - 1 by omega), decide_eq_true (show (i : Int) - 1 ≤ key x by omega)]; simp
  · rw [if_neg c]
    have : (decide (key x ≤ (i : Int) - 1) && decide ((i : Int) - 1 ≤ key x)) = false := by
      rw [Bool.and_eq_false_iff, decide_eq_false_iff_not, decide_eq_false_iff_not]; omega
    rw [this]; simp
theorem norm_f' (l : List Sp) (hl : l.length ≤ 1000000000) (k : Nat) (h : l.length + 1 ≤ k) : spans_Norm.f k l = some (normS l) := by
  obtain ⟨d, rfl⟩ : ∃ d, k = d + l.length + 1 := ⟨k - l.length - 1, by omega⟩
  exact norm_f l hl d
theorem count_f' (l : List Sp) (hl : l.length ≤ 1000000000) (k : Nat) (h : l.length + 1 ≤ k) : spans_Count.f k l = some (widS (normS l)) := by
  obtain ⟨d, rfl⟩ : ∃ d, k = d + l.length + 1 := ⟨k - l.length - 1, by omega⟩
  exact count_f l hl d
theorem loop0 (x0 : List Int) (a1 : Int) (h60 : x0.length ≤ 60) (hx : ∀ x ∈ x0, (Lit.int .u16 x).wf = true) : ∀ n j k, j + n = x0.length →
    caravanlaw2_SpansSlots.l0 (k + n + 1) x0 a1 ((x0.take j).map spanK) (inB (hasS ((x0.take j).map spanK))) (j : Int) = caravanlaw2_SpansSlots.l0 (k + 1) x0 a1 (x0.map spanK) (inB (hasS (x0.map spanK))) (x0.length : Int)
  | 0, j, k, hj => by
    obtain rfl : j = x0.length := by omega
    rw [List.take_length]
  | n + 1, j, k, hj => by
    have hlt : j < x0.length := by omega
    have ew : wrap64 ((j : Int) + 1) = ((j + 1 : Nat) : Int) := by rw [w64 _ (by omega) (by omega)]; omega
    have er : rd x0 (j : Int) = x0[j] := by unfold rd; rw [Int.toNat_natCast, List.getD_eq_getElem?_getD, List.getElem?_eq_getElem hlt]; rfl
    obtain ⟨k0, k1, k2⟩ := key_in x0[j] (hx _ (List.getElem_mem hlt))
    have ek : wrap64 (Int.tmod (wrap64 (rd x0 (j : Int))) 200 + 1) = key x0[j] + 1 := by rw [er, k2]; exact w64 _ (by unfold key at k0; omega) (by unfold key at k1; omega)
    have ek2 : Int.tmod (wrap64 (rd x0 (j : Int))) 200 = key x0[j] := by rw [er, k2]; rfl
    have et : (x0.take (j + 1)).map spanK = (x0.take j).map spanK ++ [spanK x0[j]] := by rw [List.take_succ_eq_append_getElem hlt, List.map_append]; rfl
    have ih := loop0 x0 a1 h60 hx n (j + 1) k (by omega)
    rw [show k + (n + 1) + 1 = (k + n + 1) + 1 by omega, caravanlaw2_SpansSlots.l0, if_pos (by omega), if_pos (by omega), ek, if_pos (by omega), inB_len, if_pos (by omega), if_pos (by rw [List.length_map, List.length_take]; omega), ew, ek2]
    rw [in_set _ _ k0 k1]
    rw [et] at ih
    exact ih
theorem loop1 (a1 : Int) (L M : List Sp) (p : Int → Bool) : ∀ (n : Nat) (j : Int) (k : Nat) (c e : Int), j + n = 202 → 1 ≤ j → 0 ≤ c → c ≤ j → 0 ≤ e → e ≤ j →
    caravanlaw2_SpansSlots.l1 (k + n + 1) a1 L (inB p) M c e j = caravanlaw2_SpansSlots.l1 (k + 1) a1 L (inB p) M (c + cntN p (j - 1) n) (e + endN p (j - 1) n) 202
  | 0, j, k, c, e, hj, _, _, _, _, _ => by
    obtain rfl : j = 202 := by omega
    rw [cntN, endN, Int.add_zero, Int.add_zero]
  | n + 1, j, k, c, e, hj, h1, c0, c1, e0, e1 => by
    have ew : wrap64 (j + 1) = j + 1 := w64 _ (by omega) (by omega)
    have em : wrap64 (j - 1) = j - 1 := w64 _ (by omega) (by omega)
    have ec : wrap64 (c + 1) = c + 1 := w64 _ (by omega) (by omega)
    have ee : wrap64 (e + 1) = e + 1 := w64 _ (by omega) (by omega)
    have hl : ((inB p).length : Int) = 202 := by rw [inB_len]; rfl
    rw [show k + (n + 1) + 1 = (k + n + 1) + 1 by omega, caravanlaw2_SpansSlots.l1, if_pos (show j < 202 by omega), if_pos (show 0 ≤ j by omega), hl, if_pos (show j < 202 by omega), inB_at p j (by omega) (by omega), em, if_pos (show 0 ≤ j - 1 by omega), if_pos (show j - 1 < 202 by omega), inB_at p (j - 1) (by omega) (by omega), ew, ec, ee, cntN, endN, show j - 1 + 1 = j + 1 - 1 by omega]
    by_cases hp : p (j - 1) = true
    · rw [if_pos hp, if_pos hp]
      by_cases hq : p (j - 1 - 1) = true
      · rw [if_pos hq, if_neg (by rw [hq]; simp), loop1 a1 L M p n (j + 1) k (c + 1) e (by omega) (by omega) (by omega) (by omega) (by omega) (by omega)]
        congr 1 <;> omega
      · rw [if_neg hq, if_pos ⟨hp, by simpa using hq⟩, loop1 a1 L M p n (j + 1) k (c + 1) (e + 1) (by omega) (by omega) (by omega) (by omega) (by omega) (by omega)]
        congr 1 <;> omega
    · rw [if_neg hp, if_neg hp, if_neg (fun h => hp h.1), loop1 a1 L M p n (j + 1) k c e (by omega) (by omega) (by omega) (by omega) (by omega) (by omega)]
      congr 1 <;> omega
theorem SpansSlots : caravanlaw2_SpansSlots.Pure := by
  intro x0 a1 _ _ hx ha
  have haw : ∀ k, 3 ≤ k → caravanlaw2_awake.f k = some true := fun k h => by
    obtain ⟨d, rfl⟩ : ∃ d, k = d + 3 := ⟨k - 3, by omega⟩
    exact awake_ok d
  by_cases h60 : (x0.length : Int) > 60
  · refine ⟨3, ?_⟩
    unfold caravanlaw2_SpansSlots.f
    rw [if_pos h60, haw 3 (by omega)]; rfl
  · have hl : x0.length ≤ 60 := by omega
    refine ⟨1000 + x0.length + 1, ?_⟩
    unfold caravanlaw2_SpansSlots.f
    rw [if_neg h60, if_pos (by omega)]
    have e0 := loop0 x0 a1 hl hx x0.length 0 1000 (by omega)
    rw [List.take_zero, List.map_nil] at e0
    have eB : inB (hasS []) = List.replicate 202 false := by decide +kernel
    rw [eB] at e0
    rw [show ((0 : Nat) : Int) = 0 from rfl] at e0
    rw [e0]
    obtain ⟨L, hL⟩ : ∃ L, L = x0.map spanK := ⟨_, rfl⟩
    have hLl : L.length ≤ 60 := by rw [hL, List.length_map]; exact hl
    have hin : ∀ n, hasS L n = true → 0 ≤ n ∧ n < 200 := by
      intro n h
      rw [hL, hasS_iff] at h
      obtain ⟨s, hs, h1, h2⟩ := h
      obtain ⟨x, hxm, rfl⟩ := List.mem_map.1 hs
      obtain ⟨k0, k1, _⟩ := key_in x (hx x hxm)
      have h1' : key x ≤ n := h1
      have h2' : n ≤ key x := h2
      omega
    rw [← hL]
    have hsay : ∀ n, sayS L n = hasS L n := by
      intro n
      unfold sayS
      cases k : hasS L n with
      | false => simp
      | true => have := hin n k; simp; omega
    have hN : ∀ n, hasS (normS L) n = hasS L n := fun n => by rw [(norm_spec L).2 n, hsay]
    have hM := (norm_spec L).1
    have hb : ∀ s ∈ normS L, s.f1 + 2 ≤ 0 + (201 : Nat) := by
      intro s hs
      have h1 := mayF_in hM (by omega) s hs
      have h2 : hasS (normS L) s.f1 = true := (hasS_iff _ _).2 ⟨s, hs, h1.2.1, Int.le_refl _⟩
      rw [hN] at h2
      have := hin _ h2; omega
    obtain ⟨q1, q2⟩ := cnt_list (normS L) 0 201 (hasS L) (by show mayF (0 - 1) _; exact hM) hb fun i _ => (hN i).symm
    obtain ⟨a0, a2, a3⟩ := key_in a1 ha
    rw [caravanlaw2_SpansSlots.l0, if_neg (by omega), norm_f' L (by omega) 1000 (by omega), Option.bind_some]
    have e1 := loop1 a1 L (normS L) (hasS L) 201 1 798 0 0 (by omega) (by omega) (by omega) (by omega) (by omega) (by omega)
    rw [show (798 + 201 + 1 : Nat) = 1000 from rfl, show (1 : Int) - 1 = 0 from rfl, q1, q2, Int.zero_add, Int.zero_add] at e1
    rw [e1, caravanlaw2_SpansSlots.l1, if_neg (by omega), count_f' L (by omega) 798 (by omega), Option.bind_some, if_pos rfl, if_pos rfl]
    have eh : ∀ (l : List Sp) (n : Int), l.length ≤ 1000 → spans_Has.f l n = some (sayS l n) := fun l n h => by unfold spans_Has.f; rw [if_pos (by omega)]
    have hnl := normS_len L
    have ek : Int.tmod (wrap64 a1) 200 = key a1 := by rw [a3]; rfl
    rw [ek, w64 (key a1 + 1) (by omega) (by omega), eh L _ (by omega), Option.bind_some, if_pos (by omega), inB_len, if_pos (by omega), inB_at _ _ (by omega) (by omega), hsay, show key a1 + 1 - 1 = key a1 by omega, if_pos (by simp), eh (normS L) _ (by omega), Option.bind_some, norm_say, hsay, if_pos (by simp), eh L _ (by omega), Option.bind_some, hsay, eh L _ (by omega), Option.bind_some, hsay]
    have n1 : hasS L (-1) = false := by
      cases k : hasS L (-1) with
      | false => rfl
      | true => have := hin _ k; omega
    have n2 : hasS L 16384 = false := by
      cases k : hasS L 16384 with
      | false => rfl
      | true => have := hin _ k; omega
    rw [n1, n2, if_neg (by decide), if_neg (by decide), haw 798 (by omega)]
    rfl
end Go.Proofs.YtnlakdpfkgjdaaaDoor.Pure
