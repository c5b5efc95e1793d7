/- Plain laws about commands: the document's Check is the program's. No conditions. -/
import Derived.Test.YtjdpmjpfhcdcfaaPa
namespace Go.Proofs.Ytjdpmjpfhcdcfaa.Pure
open Go.RowKit Go.Pk Go.Proofs.Ytjdpmjpfhcdcfaa.G Go.Proofs.YtjdpmjpfhcdcfaaW.PrintWords Go.Proofs.YtjdpmjpfhcdcfaaW.PrintLast

theorem counted_iff (s : SpecV) (n : Nat) : countedP s n = true ↔ (¬ ((s.nm.toList = [77, 83, 69, 84] ∨ s.nm.toList = [77, 83, 69, 84, 78, 88]) ∧ (n : Int) % 2 = 0)) ∧ (¬ (s.nm.toList = [72, 83, 69, 84] ∧ ¬ (n : Int) % 2 = 0)) ∧ (n : Int) ≤ 100 ∧ s.least ≤ (n : Int) ∧ (s.most = 0 ∨ (n : Int) ≤ s.most) := by
  unfold countedP
  have h2 : ((n : Int) % 2 = 1) ↔ ¬ (n : Int) % 2 = 0 := by omega
  by_cases hM : s.nm.toList = [77, 83, 69, 84]
  · by_cases hE : (n : Int) % 2 = 0 <;> simp [hM, hE, and_assoc]
  · by_cases hX : s.nm.toList = [77, 83, 69, 84, 78, 88]
    · by_cases hE : (n : Int) % 2 = 0 <;> simp [hX, hE, and_assoc]
    · by_cases hH : s.nm.toList = [72, 83, 69, 84]
      · by_cases hE : (n : Int) % 2 = 0
        · have hn1 : ¬ (n : Int) % 2 = 1 := by omega
          simp [hH, hE, and_assoc]
        · have h1 : (n : Int) % 2 = 1 := by omega
          simp [hH, h1]
      · simp [hM, hX, hH, and_assoc]
theorem most_pos : specL.all (fun s => decide (0 ≤ s.most)) = true := by decide +kernel

/-- behind the count: the keys -/
theorem j1_no (k : Nat) (ws : List ByteArray) (s : SpecV) : caravanref1_Check.j1 (k + 1) ws true s.nm s.least s.most s.first s.last s.step s.wr = some (res none) := by
  rw [caravanref1_Check.j1, if_pos rfl]; rfl
theorem j2_no (k : Nat) (ws : List ByteArray) (s : SpecV) : caravanref1_Check.j2 (k + 1) ws true s.nm s.least s.most s.first s.last s.step s.wr = some (res none) := by
  rw [caravanref1_Check.j2, if_pos rfl]; rfl
theorem j1_yes (k : Nat) (ws : List ByteArray) (s : SpecV) : caravanref1_Check.j1 (k + 2) ws false s.nm s.least s.most s.first s.last s.step s.wr =
    if (¬ ((s.nm.toList = [77, 83, 69, 84] ∨ s.nm.toList = [77, 83, 69, 84, 78, 88]) ∧ (ws.length : Int) % 2 = 0)) ∧ (¬ (s.nm.toList = [72, 83, 69, 84] ∧ ¬ (ws.length : Int) % 2 = 0)) then caravanref1_Check.j2 (k + 1) ws false s.nm s.least s.most s.first s.last s.step s.wr else some (res none) := by
  rw [caravanref1_Check.j1]
  rw [if_neg (by decide)]
  by_cases hM : s.nm.toList = [77, 83, 69, 84]
  · by_cases hE : (ws.length : Int) % 2 = 0
    · rw [if_pos hM, if_pos hE, j2_no, if_neg (by simp [hM, hE])]
    · rw [if_pos hM, if_neg hE, if_neg (by rw [hM]; decide), if_pos (by simp [hM, hE])]
  · rw [if_neg hM]
    by_cases hX : s.nm.toList = [77, 83, 69, 84, 78, 88]
    · by_cases hE : (ws.length : Int) % 2 = 0
      · rw [if_pos hX, if_pos hE, j2_no, if_neg (by simp [hX, hE])]
      · rw [if_pos hX, if_neg hE, if_neg (by rw [hX]; decide), if_pos (by simp [hX, hE])]
    · rw [if_neg hX]
      by_cases hH : s.nm.toList = [72, 83, 69, 84]
      · by_cases hE : (ws.length : Int) % 2 = 0
        · rw [if_pos hH, if_pos (by simp [hH, hE]), show (!((ws.length : Int) % 2 == 0)) = false from by simp [hE]]
        · rw [if_pos hH, if_neg (by simp [hH, hE]), show (!((ws.length : Int) % 2 == 0)) = true from by simp [hE], j2_no]
      · rw [if_neg hH, if_pos (by simp [hM, hX, hH])]
theorem check_f (ws : List ByteArray) (hl : ws.length ≤ 10000) (h0 : ∀ x, ws[0]? = some x → x.size ≤ 1000) (k : Nat) (hk : 1000 ≤ k) : caravanref1_Check.f k ws = some (res (checkP ws)) := by
  obtain ⟨k, rfl⟩ : ∃ k', k = k' + 4 := ⟨k - 4, by omega⟩
  have hno : ∀ ws, caravanref1_Check.j0 (k + 4) ws true = some (res none) := fun ws => by
    rw [caravanref1_Check.j0, if_pos rfl]; rfl
  cases ws with
  | nil =>
    unfold caravanref1_Check.f
    rw [if_pos (show ((([] : List ByteArray).length : Int) = 0) from rfl), hno]; rfl
  | cons x ws' =>
    have hx := h0 x rfl
    have hck : checkP (x :: ws') = match findP x with | none => none | some s => if countedP s (x :: ws').length = true ∧ (keysL s (x :: ws')).all (fun k => decide (k.size ≤ 40)) = true then some s else none := rfl
    have hpos : (0 : Int) < ((x :: ws').length : Int) := by simp only [List.length_cons]; omega
    obtain ⟨W, hW⟩ : ∃ W, W = x :: ws' := ⟨_, rfl⟩
    rw [← hW] at hck hpos hl ⊢
    have hrd : rdOf ByteArray.empty W 0 = x := by rw [hW]; rfl
    unfold caravanref1_Check.f
    rw [if_neg (by omega)]
    by_cases h100 : 100 < W.length
    · rw [show decide ((W.length : Int) > 100) = true from decide_eq_true (by omega), hno, hck]
      cases findP x with
      | none => rfl
      | some s =>
        simp only
        rw [if_neg (fun h => by have := counted_le h.1; omega)]
    · rw [show decide ((W.length : Int) > 100) = false from decide_eq_false (by omega)]
      rw [caravanref1_Check.j0]
      rw [if_neg (by decide), if_pos hpos, hrd, find_f x hx (k + 3) (by omega), Option.bind_some, hck]
      cases hF : findP x with
      | none =>
        rw [if_neg (by decide)]
        exact j1_no (k + 2) W zeroS
      | some s =>
        have hmem : s ∈ specL := List.mem_of_find?_eq_some hF
        have hm := List.all_eq_true.1 most_pos s hmem
        rw [decide_eq_true_eq] at hm
        rw [if_pos (show (res (some s)).2.2.2.2.2.2.2 = true from rfl)]
        show (if (W.length : Int) < s.least then caravanref1_Check.j1 (k + 3) W true s.nm s.least s.most s.first s.last s.step s.wr else if s.most > 0 then caravanref1_Check.j1 (k + 3) W (decide ((W.length : Int) > s.most)) s.nm s.least s.most s.first s.last s.step s.wr else caravanref1_Check.j1 (k + 3) W false s.nm s.least s.most s.first s.last s.step s.wr) = _
        have hci := counted_iff s W.length
        by_cases hle : (W.length : Int) < s.least
        · rw [if_pos hle, j1_no (k + 2)]
          simp only
          rw [if_neg (fun h => by have := hci.1 h.1; omega)]
        · rw [if_neg hle]
          by_cases hmo : s.most = 0 ∨ (W.length : Int) ≤ s.most
          · have e1 : (if s.most > 0 then caravanref1_Check.j1 (k + 3) W (decide ((W.length : Int) > s.most)) s.nm s.least s.most s.first s.last s.step s.wr else caravanref1_Check.j1 (k + 3) W false s.nm s.least s.most s.first s.last s.step s.wr) = caravanref1_Check.j1 (k + 3) W false s.nm s.least s.most s.first s.last s.step s.wr := by
              split
              · rw [show decide ((W.length : Int) > s.most) = false from decide_eq_false (by omega)]
              · rfl
            rw [e1, show k + 3 = (k + 1) + 2 from rfl, j1_yes (k + 1) W s]
            simp only
            split
            · rename_i hc
              have hcp : countedP s W.length = true := hci.2 ⟨hc.1, hc.2, by omega, by omega, hmo⟩
              have hKA := keysAre s W hmem (by omega) (by omega)
              have hkl : (keysL s W).length ≤ 200 := by rw [keysL_length]; exact keyCount_le hmem hcp
              rw [caravanref1_Check.j2]
              rw [if_neg (by decide), keys_f s W (keysL s W) _ _ hKA (by omega) (k + 1) (by omega), Option.bind_some]
              have hcl := check_l0 s (keysL s W) (by omega) (keysL s W).length 0 (k + 1) (by omega) (by omega)
              rw [List.drop_zero] at hcl
              show caravanref1_Check.l0 (k + 1) (keysL s W) ((0 : Nat) : Int) s.nm s.least s.most s.first s.last s.step s.wr = _
              rw [hcl, hcp]
              simp
            · rename_i hc
              rw [if_neg (fun h => hc ⟨(hci.1 h.1).1, (hci.1 h.1).2.1⟩)]
          · have e1 : (if s.most > 0 then caravanref1_Check.j1 (k + 3) W (decide ((W.length : Int) > s.most)) s.nm s.least s.most s.first s.last s.step s.wr else caravanref1_Check.j1 (k + 3) W false s.nm s.least s.most s.first s.last s.step s.wr) = some (res none) := by
              rw [if_pos (by omega), show decide ((W.length : Int) > s.most) = true from decide_eq_true (by omega)]
              exact j1_no (k + 2) W s
            rw [e1]
            simp only
            rw [if_neg (fun h => hmo (hci.1 h.1).2.2.2.2)]
theorem keysFn_f (ws : List ByteArray) (hl : ws.length ≤ 10000) (h0 : ∀ x, ws[0]? = some x → x.size ≤ 1000) (k : Nat) (hk : 1000 ≤ k) : caravanref1_Keys.f k ws = some (keysP ws) := by
  unfold caravanref1_Keys.f keysP
  rw [check_f ws hl h0 k hk, Option.bind_some]
  cases hc : checkP ws with
  | none => rw [if_neg (by decide)]
  | some s =>
    rw [if_pos (show (res (some s)).2.2.2.2.2.2.2 = true from rfl)]
    obtain ⟨q1, q2, _⟩ := checkP_some hc
    have hKA := keysAre s ws q1 (by omega) (countedP_least q2)
    have hkl : (keysL s ws).length ≤ 200 := by rw [keysL_length]; exact keyCount_le q1 q2
    have := keys_f s ws (keysL s ws) _ _ hKA (by omega) k (by omega)
    show ((caravanref1_keys.f k s.nm s.least s.most s.first s.last s.step s.wr ws).bind _) = _
    rw [this]; rfl
theorem texts_l0 (l : List ByteArray) (hl : l.length ≤ 100000) : ∀ (d i k : Nat), i + d = l.length → d + 1 ≤ k → caravanref1_Texts.l0 k l l (i : Int) = some true
  | 0, i, k, hi, hk => by
    obtain ⟨k, rfl⟩ : ∃ k', k = k' + 1 := ⟨k - 1, by omega⟩
    rw [caravanref1_Texts.l0]
    rw [if_neg (by omega)]
  | d + 1, i, k, hi, hk => by
    obtain ⟨k, rfl⟩ : ∃ k', k = k' + 1 := ⟨k - 1, by omega⟩
    rw [caravanref1_Texts.l0]
    rw [if_pos (by omega), if_pos (by omega), if_pos (by omega), if_pos rfl, w64 (by omega) (by omega)]
    exact texts_l0 l hl d (i + 1) k (by omega) (by omega)
theorem texts_f (l : List ByteArray) (hl : l.length ≤ 300) (k : Nat) (hk : 400 ≤ k) : caravanref1_Texts.f k l l = some true := by
  unfold caravanref1_Texts.f
  rw [if_pos rfl]
  exact texts_l0 l (by omega) l.length 0 k (by omega) (by omega)
theorem great_l0 (ws : List ByteArray) : ∀ (d i k : Nat), i + d = min ws.length 130 → 2 * d + 2 ≤ k → ∃ g, caravanlaw4_Great.l0 k ws (i : Int) = some g ∧ (g = false → ws.length ≤ 120 ∧ ∀ j (hj : j < ws.length), i ≤ j → j < 130 → (ws[j]).size ≤ 500)
  | 0, i, k, hi, hk => by
    obtain ⟨k, rfl⟩ : ∃ k', k = k' + 2 := ⟨k - 2, by omega⟩
    refine ⟨decide ((ws.length : Int) > 120), ?_, fun h => ?_⟩
    · unfold caravanlaw4_Great.l0
      have hj1 : caravanlaw4_Great.j1 (k + 1) ws (i : Int) false = some (decide ((ws.length : Int) > 120)) := by
        rw [caravanlaw4_Great.j1, if_neg (by decide)]
      split
      · rw [show decide ((i : Int) < 130) = false from decide_eq_false (by omega)]; exact hj1
      · exact hj1
    · rw [decide_eq_false_iff_not] at h
      exact ⟨by omega, fun j hj h1 h2 => by omega⟩
  | d + 1, i, k, hi, hk => by
    obtain ⟨k, rfl⟩ : ∃ k', k = k' + 2 := ⟨k - 2, by omega⟩
    have hlt : i < ws.length := by omega
    rw [caravanlaw4_Great.l0]
    rw [if_pos (by omega), show decide ((i : Int) < 130) = true from decide_eq_true (by omega)]
    rw [caravanlaw4_Great.j1]
    rw [if_pos rfl, if_pos (by omega), if_pos (by omega), rdOf_at _ _ _ hlt]
    by_cases hq : (ws[i]).size ≤ 500
    · rw [if_neg (by omega), w64 (by omega) (by omega)]
      obtain ⟨g, h1, h2⟩ := great_l0 ws d (i + 1) k (by omega) (by omega)
      refine ⟨g, h1, fun hg => ⟨(h2 hg).1, fun j hj g1 g2 => ?_⟩⟩
      by_cases hji : j = i
      · subst hji; exact hq
      · exact (h2 hg).2 j hj (by omega) g2
    · rw [if_pos (by omega)]
      exact ⟨true, rfl, fun h => by cases h⟩
theorem awake4 : caravanlaw4_awake.f = some true := by decide +kernel
theorem res_eq (o : Option SpecV) : ((res o).1.toList == (res o).1.toList && ((res o).2.1 == (res o).2.1 && ((res o).2.2.1 == (res o).2.2.1 && ((res o).2.2.2.1 == (res o).2.2.2.1 && ((res o).2.2.2.2.1 == (res o).2.2.2.2.1 && ((res o).2.2.2.2.2.1 == (res o).2.2.2.2.2.1 && ((res o).2.2.2.2.2.2.1 == (res o).2.2.2.2.2.2.1))))))) = true := by simp
theorem CmdAll (ws : List ByteArray) (s : ByteArray) : ∃ k, caravanlaw4_CmdAll.f k ws s = some true := by
  refine ⟨1101, ?_⟩
  obtain ⟨g, hg, hg2⟩ := great_l0 ws (min ws.length 130) 0 1101 (by omega) (by omega)
  unfold caravanlaw4_CmdAll.f caravanlaw4_Great.f
  rw [show (0 : Int) = ((0 : Nat) : Int) from rfl, hg, Option.bind_some]
  have hyes : caravanlaw4_CmdAll.j0 1101 ws s true = some true := by
    rw [caravanlaw4_CmdAll.j0, if_pos rfl, awake4]; rfl
  cases g with
  | true => rw [if_pos rfl]; exact hyes
  | false =>
    rw [if_neg (by decide)]
    obtain ⟨hlen, hsz⟩ := hg2 rfl
    by_cases hs : 100 < s.size
    · rw [show decide ((s.size : Int) > 100) = true from decide_eq_true (by omega)]; exact hyes
    · rw [show decide ((s.size : Int) > 100) = false from decide_eq_false (by omega)]
      have h0 : ∀ x, ws[0]? = some x → x.size ≤ 1000 := fun x hx => by
        obtain ⟨h, rfl⟩ := List.getElem?_eq_some_iff.1 hx
        have := hsz 0 h (by omega) (by omega); omega
      have hfit : fitW ws = true := by
        unfold fitW
        rw [Bool.and_eq_true, decide_eq_true_eq]
        refine ⟨by omega, ?_⟩
        cases ws with
        | nil => rfl
        | cons x t => have := h0 x rfl; exact decide_eq_true (by omega)
      have e1 : cmd_Check.f ws = some (res (checkP ws)) := by unfold cmd_Check.f; rw [if_pos hfit]; rfl
      have e2 : cmd_Find.f s = some (res (findP s)) := by unfold cmd_Find.f; rw [if_pos (by omega)]; rfl
      have e3 : cmd_Keys.f ws = some (keysP ws) := by unfold cmd_Keys.f; rw [if_pos hfit]
      have hkl : (keysP ws).length ≤ 200 := by
        unfold keysP
        cases hc : checkP ws with
        | none => simp
        | some s =>
          obtain ⟨q1, q2, _⟩ := checkP_some hc
          simp only
          rw [keysL_length]; exact keyCount_le q1 q2
      rw [caravanlaw4_CmdAll.j0]
      rw [if_neg (by decide), e1, Option.bind_some, check_f ws (by omega) h0 1100 (by omega), Option.bind_some, e2, Option.bind_some, find_f s (by omega) 1100 (by omega), Option.bind_some]
      rw [if_pos (res_eq _), if_pos (by simp), if_pos (res_eq _), if_pos (by simp), e3, Option.bind_some, keysFn_f ws (by omega) h0 1100 (by omega), Option.bind_some, texts_f _ (by omega) 1100 (by omega), Option.bind_some, if_pos rfl, awake4]
      rfl
end Go.Proofs.Ytjdpmjpfhcdcfaa.Pure
