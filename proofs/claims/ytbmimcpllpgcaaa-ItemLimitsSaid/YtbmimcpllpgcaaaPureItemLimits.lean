/- The plain statement of ItemLimits: items of as many elements, and as long texts, as may be, may; one beyond may not; no condition beyond the statement's own. -/
import Derived.Test.YtbmimcpllpgcaaaG8
import Derived.Test.YtbmimcpllpgcaaaPI
namespace Go.Proofs.Ytbmimcpllpgcaaa.Pure
open Go.RowKit Go.Pk Go.Proofs.Ytbmimcpllpgcaaa.G Go.Proofs.YtbmimcpllpgcaaaW.PrintWords Go.Proofs.YtbmimcpllpgcaaaW.PrintLast

def xr : Nat → ByteArray
  | 0 => ⟨#[]⟩
  | n + 1 => xr n ++ ⟨#[120]⟩
theorem xr_size (n : Nat) : (xr n).size = n := by
  induction n with
  | zero => rfl
  | succ n ih => rw [xr, ByteArray.size_append, ih]; rfl

theorem rises_of (l : List ByteArray) (h : ∀ (i : Nat) (x y : ByteArray), l[i]? = some x → l[i + 1]? = some y → Op.bytesLess x.toList y.toList = true) : risesB l = true := by
  induction l with
  | nil => rfl
  | cons x l ih =>
    cases l with
    | nil => rfl
    | cons y l =>
      have h0 := h 0 x y rfl rfl
      have h1 : lowP y x = false := by
        unfold lowP
        cases q : Op.bytesLess y.toList x.toList
        · cases q2 : (y.toList == x.toList)
          · rfl
          · rw [beq_iff_eq.1 q2, less_irrefl] at h0; cases h0
        · have := less_trans _ _ _ h0 q
          rw [less_irrefl] at this; cases this
      rw [show risesB (x :: y :: l) = (!lowP y x && risesB (y :: l)) from rfl, h1, ih (fun i a b ha hb => h (i + 1) a b (by simpa using ha) (by simpa using hb))]
      rfl

def FL (kk : Int) (j m : Nat) : List S29 := if kk = 2 then (List.range j).map (fun i => ⟨dg i, xr m⟩) else []
def LL (kk : Int) (j m : Nat) : List ByteArray := if kk = 2 then [] else (List.range j).map (fun i => dg i ++ xr m)

theorem may_text (m : Nat) (e : Int) : mayB 1 (xr m) [] [] e = (decide ((m : Int) ≤ 300) && (decide (0 ≤ e) && decide (e ≤ 9007199254740992))) := by
  rw [Bool.eq_iff_iff]
  unfold mayB shapedB
  simp [xr_size]
  omega

theorem rises_range (n : Nat) (f : Nat → ByteArray) (h : ∀ i, i + 1 < n → Op.bytesLess (f i).toList (f (i + 1)).toList = true) : risesB ((List.range n).map f) = true := by
  refine rises_of _ fun i x y hx hy => ?_
  rw [List.getElem?_map] at hx hy
  obtain ⟨a, ha, rfl⟩ := Option.map_eq_some_iff.1 hx
  obtain ⟨b, hb, rfl⟩ := Option.map_eq_some_iff.1 hy
  obtain ⟨h1, rfl⟩ := List.getElem?_eq_some_iff.1 ha
  obtain ⟨h2, rfl⟩ := List.getElem?_eq_some_iff.1 hb
  rw [List.length_range] at h1 h2
  rw [List.getElem_range, List.getElem_range]
  exact h i h2

theorem all_range (n : Nat) (hn : 1 ≤ n) (p : Nat → Bool) (b : Bool) (h : ∀ i, i < n → p i = b) : (List.range n).all p = b := by
  cases b with
  | true => rw [List.all_eq_true]; intro x hx; exact h x (List.mem_range.1 hx)
  | false =>
    rw [List.all_eq_false]
    exact ⟨0, List.mem_range.2 (by omega), by rw [h 0 (by omega)]; simp⟩

theorem dg_lt (i : Nat) (h : i < 49) : Op.bytesLess (dg i).toList (dg (i + 1)).toList = true := dg_low ⟨i, h⟩

theorem may_item (kk : Int) (hk : kk = 2 ∨ kk = 3 ∨ kk = 4) (n m : Nat) (hn : n < 50) (e : Int) :
    mayB kk ⟨#[]⟩ (FL kk n m) (LL kk n m) e = (decide (1 ≤ n) && decide (n ≤ 40) && (if kk = 2 then decide (m ≤ 300) else decide (m ≤ 297)) && (decide (0 ≤ e) && decide (e ≤ 9007199254740992))) := by
  have hemp : (⟨#[]⟩ : ByteArray).toList.isEmpty = true := by decide +kernel
  have h0 : (⟨#[]⟩ : ByteArray).size = 0 := rfl
  by_cases hn1 : 1 ≤ n
  · unfold mayB shapedB
    rcases hk with rfl | rfl | rfl
    · have hr : risesB ((FL 2 n m).map S29.f0) = true := by
        rw [FL, if_pos rfl, List.map_map]
        exact rises_range n _ fun i hi => dg_lt i (by omega)
      have ha : ((⟨#[]⟩ : ByteArray) :: ((FL 2 n m).flatMap fun x => [x.f0, x.f1]) ++ LL 2 n m).all (fun t => decide (t.size ≤ 300)) = decide (m ≤ 300) := by
        rw [FL, LL, if_pos rfl, if_pos rfl, List.append_nil, List.all_cons, h0, List.all_flatMap, List.all_map]
        rw [all_range n hn1 _ (decide (m ≤ 300)) (fun i _ => by simp [dg_size, xr_size])]
        simp
      have hl : (FL 2 n m).length = n := by simp [FL]
      have hl2 : (LL 2 n m).length = 0 := by simp [LL]
      rw [hr, ha, hl, hl2, hemp]
      rw [Bool.eq_iff_iff]
      simp [someB]
      omega
    · have ha : ((⟨#[]⟩ : ByteArray) :: ((FL 3 n m).flatMap fun x => [x.f0, x.f1]) ++ LL 3 n m).all (fun t => decide (t.size ≤ 300)) = decide (m ≤ 297) := by
        rw [FL, LL, if_neg (by decide), if_neg (by decide), List.flatMap_nil, List.cons_append, List.nil_append, List.all_cons, h0, List.all_map]
        rw [all_range n hn1 _ (decide (m ≤ 297)) (fun i _ => by rw [Bool.eq_iff_iff]; simp [dg_size, xr_size]; omega)]
        simp
      have hl : (FL 3 n m).length = 0 := by simp [FL]
      have hl2 : (LL 3 n m).length = n := by simp [LL]
      rw [ha, hl, hl2, hemp]
      rw [Bool.eq_iff_iff]
      simp [someB]
      omega
    · have hr : risesB (LL 4 n m) = true := by
        rw [LL, if_neg (by decide)]
        refine rises_range n _ fun i hi => ?_
        rw [toList_append, toList_append, less_append _ _ _ _ (by rw [toList_length, toList_length]; rfl), dg_lt i (by omega)]
        rfl
      have ha : ((⟨#[]⟩ : ByteArray) :: ((FL 4 n m).flatMap fun x => [x.f0, x.f1]) ++ LL 4 n m).all (fun t => decide (t.size ≤ 300)) = decide (m ≤ 297) := by
        rw [FL, LL, if_neg (by decide), if_neg (by decide), List.flatMap_nil, List.cons_append, List.nil_append, List.all_cons, h0, List.all_map]
        rw [all_range n hn1 _ (decide (m ≤ 297)) (fun i _ => by rw [Bool.eq_iff_iff]; simp [dg_size, xr_size]; omega)]
        simp
      have hl : (FL 4 n m).length = 0 := by simp [FL]
      have hl2 : (LL 4 n m).length = n := by simp [LL]
      rw [hr, ha, hl, hl2, hemp]
      rw [Bool.eq_iff_iff]
      simp [someB]
      omega
  · obtain rfl : n = 0 := by omega
    have hl : (FL kk 0 m).length = 0 := by simp [FL]
    have hl2 : (LL kk 0 m).length = 0 := by simp [LL]
    unfold mayB shapedB
    rw [hl, hl2]
    have h1 : (kk == 1) = false := by rcases hk with rfl | rfl | rfl <;> rfl
    rw [h1]
    simp [someB]

theorem l0_ev (x0 x3 x9 : Int) (m : Nat) (hm : m < 400) (r : Bool) (h : Ev (fun k => caravanlaw5_ItemLimits.l1 k x3 x9 m (xr m) 0 (wrap64 (2 + (Int.tmod (wrap64 (x0)) 3))) (⟨#[]⟩ : ByteArray) [] [] x3 1 (xr m) x3) r) :
    ∀ d i, i + d = m → Ev (fun k => caravanlaw5_ItemLimits.l0 k x0 x3 x9 m (xr i)) r := by
  intro d
  induction d with
  | zero =>
    intro i hi
    obtain rfl : i = m := by omega
    refine Ev.step (fun k => ?_) h
    simp only [caravanlaw5_ItemLimits.l0]
    rw [if_neg (by rw [xr_size]; omega)]
  | succ d ih =>
    intro i hi
    refine Ev.step (fun k => ?_) (ih (i + 1) (by omega))
    simp only [caravanlaw5_ItemLimits.l0]
    rw [if_pos (by rw [xr_size]; omega), if_pos (by rw [xr_size]; omega)]
    rfl

theorem l1_ev (x3 : Int) (n m : Nat) (hn : n < 50) (hm : m < 400) (kk : Int) (hk : kk = 2 ∨ kk = 3 ∨ kk = 4) :
    ∀ d j, j + d = n → Ev (fun k => caravanlaw5_ItemLimits.l1 k x3 n m (xr m) j kk (⟨#[]⟩ : ByteArray) (FL kk j m) (LL kk j m) x3 1 (xr m) x3) true := by
  intro d
  induction d with
  | zero =>
    intro j hj
    obtain rfl : j = n := by omega
    obtain ⟨K, hK⟩ := awake_ev
    refine ⟨K + 3, fun k hk' => ?_⟩
    obtain ⟨k, rfl⟩ : ∃ q, k = q + 3 := ⟨k - 3, by omega⟩
    have ha := hK k (by omega)
    have hlF : (FL kk j m).length ≤ 10000000000 := by unfold FL; split <;> simp <;> omega
    have hlL : (LL kk j m).length ≤ 10000000000 := by unfold LL; split <;> simp <;> omega
    have m1 : item_May.f 1 (xr m) ([] : List S29) ([] : List ByteArray) x3 = some (decide ((m : Int) ≤ 300) && (decide (0 ≤ x3) && decide (x3 ≤ 9007199254740992))) := by
      unfold item_May.f; rw [if_pos (by simp), may_text]
    have m2 : item_May.f kk (⟨#[]⟩ : ByteArray) (FL kk j m) (LL kk j m) x3 = some (decide (1 ≤ j) && decide (j ≤ 40) && (if kk = 2 then decide (m ≤ 300) else decide (m ≤ 297)) && (decide (0 ≤ x3) && decide (x3 ≤ 9007199254740992))) := by
      unfold item_May.f; rw [if_pos ⟨hlF, hlL⟩, may_item kk hk j m hn]
    simp only [caravanlaw5_ItemLimits.l1, caravanlaw5_ItemLimits.j2, caravanlaw5_ItemLimits.j3]
    rw [if_neg (by omega), m1, m2]
    simp only [Option.bind_some, ha]
    have c1 : ((j : Int) ≥ 1) = (1 ≤ j) := by simp; omega
    have c2 : ((j : Int) ≤ 40) = (j ≤ 40) := by simp; omega
    have c3 : ((m : Int) ≤ 300) = (m ≤ 300) := by simp; omega
    have c4 : ((m : Int) ≤ 297) = (m ≤ 297) := by simp; omega
    simp only [c1, c2, c3, c4, ge_iff_le]
    by_cases b1 : 0 ≤ x3 <;> by_cases b2 : kk = 2 <;> by_cases b3 : m ≤ 300 <;> by_cases b4 : m ≤ 297 <;> by_cases b5 : 1 ≤ j <;> by_cases b6 : j ≤ 40 <;> by_cases b7 : x3 ≤ 9007199254740992 <;> simp [b1, b2, b3, b4, b5, b6, b7]
  | succ d ih =>
    intro j hj
    obtain ⟨K1, h1⟩ := digits_ev j (by omega)
    obtain ⟨K2, h2⟩ := ih (j + 1) (by omega)
    refine ⟨K1 + K2 + 1, fun k hk' => ?_⟩
    obtain ⟨k, rfl⟩ : ∃ q, k = q + 1 := ⟨k - 1, by omega⟩
    have e2 := h2 k (by omega)
    have e1 : caravanref1_Digits.f k (100 + (j : Int)) = some (dg j) := h1 k (by omega)
    dsimp only at e2
    have lF : (FL kk j m).length ≤ j := by unfold FL; split <;> simp
    have lL : (LL kk j m).length ≤ j := by unfold LL; split <;> simp
    simp only [caravanlaw5_ItemLimits.l1]
    rw [if_pos (by omega), w64 (by omega) (by omega), e1]
    simp only [Option.bind_some]
    rw [w64 (by omega) (by omega)]
    by_cases b2 : kk = 2
    · rw [if_pos b2, if_pos (by omega)]
      have f1 : FL kk (j + 1) m = FL kk j m ++ [⟨dg j, xr m⟩] := by unfold FL; rw [if_pos b2, if_pos b2, List.range_succ, List.map_append]; rfl
      have f2 : LL kk (j + 1) m = LL kk j m := by unfold LL; rw [if_pos b2, if_pos b2]
      rw [f1, f2] at e2
      exact e2
    · rw [if_neg b2, if_pos (by rw [dg_size, xr_size]; omega), if_pos (by omega)]
      have f1 : FL kk (j + 1) m = FL kk j m := by unfold FL; rw [if_neg b2, if_neg b2]
      have f2 : LL kk (j + 1) m = LL kk j m ++ [dg j ++ xr m] := by unfold LL; rw [if_neg b2, if_neg b2, List.range_succ, List.map_append]; rfl
      rw [f1, f2] at e2
      exact e2

theorem ItemLimits : caravanlaw5_ItemLimits.Pure := by
  intro a0 a1 a2 a3 h0 h1 h2 h3
  have q0 := wf_u8 h0
  have q1 := wf_u8 h1
  have q2 := wf_u16 h2
  refine Ev.rounds (g := fun k => caravanlaw5_ItemLimits.f k a0 a1 a2 a3) ?_
  obtain ⟨n, hn⟩ : ∃ n : Nat, Int.tmod (wrap64 a1) 50 = n := ⟨(a1 % 50).toNat, by rw [w64 (by omega) (by omega), Int.tmod_eq_emod_of_nonneg (by omega)]; omega⟩
  obtain ⟨m, hm⟩ : ∃ m : Nat, Int.tmod (wrap64 a2) 400 = m := ⟨(a2 % 400).toNat, by rw [w64 (by omega) (by omega), Int.tmod_eq_emod_of_nonneg (by omega)]; omega⟩
  have hn2 : n < 50 := by rw [w64 (by omega) (by omega), Int.tmod_eq_emod_of_nonneg (by omega)] at hn; omega
  have hm2 : m < 400 := by rw [w64 (by omega) (by omega), Int.tmod_eq_emod_of_nonneg (by omega)] at hm; omega
  obtain ⟨kk, hkk, hk⟩ : ∃ kk, wrap64 (2 + (Int.tmod (wrap64 a0) 3)) = kk ∧ (kk = 2 ∨ kk = 3 ∨ kk = 4) := ⟨_, rfl, by rw [w64 (n := a0) (by omega) (by omega), Int.tmod_eq_emod_of_nonneg (by omega), w64 (by omega) (by omega)]; omega⟩
  unfold caravanlaw5_ItemLimits.f
  rw [hn, hm]
  refine l0_ev a0 a3 n m hm2 true ?_ m 0 (by omega)
  rw [hkk]
  have := l1_ev a3 n m hn2 hm2 kk hk n 0 (by omega)
  have f1 : FL kk 0 m = [] := by simp [FL]
  have f2 : LL kk 0 m = [] := by simp [LL]
  rw [f1, f2] at this
  exact this
end Go.Proofs.Ytbmimcpllpgcaaa.Pure
