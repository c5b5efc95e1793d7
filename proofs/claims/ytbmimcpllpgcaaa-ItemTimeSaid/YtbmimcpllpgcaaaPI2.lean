/- Plain laws about items, for the statements: whether two are alike, a copy, a set or a hash with one more. Conditions: bounds on lengths. -/
import Derived.Test.YtbmimcpllpgcaaaPI
import Derived.Test.YtbmimcpllpgcaaaG2
import Derived.Test.YtbmimcpllpgcaaaG5
import Derived.Test.YtbmimcpllpgcaaaG9
namespace Go.Proofs.Ytbmimcpllpgcaaa.Pure
open Go.RowKit Go.Pk Go.Proofs.Ytbmimcpllpgcaaa.G Go.Proofs.YtbmimcpllpgcaaaW.PrintWords Go.Proofs.YtbmimcpllpgcaaaW.PrintLast

deriving instance DecidableEq for S29
theorem rd29_at (l : List S29) (i : Nat) (h : i < l.length) : rd_T29 l (i : Int) = l[i] := by
  unfold rd_T29; rw [Int.toNat_natCast, List.getD_eq_getElem?_getD, List.getElem?_eq_getElem h]; rfl
theorem s29_ext (a b : S29) : a = b ↔ a.f0 = b.f0 ∧ a.f1 = b.f1 := by cases a; cases b; simp

theorem eqs_ev (a b : List ByteArray) (hl : a.length = b.length) (hm : a.length ≤ 1000000000000) : ∀ i, i ≤ a.length → Ev (fun k => slices_Equal_string_string.l0 k a b (a.length : Int) (i : Int)) (decide (a.drop i = b.drop i)) := by
  refine up ?_ ?_
  · refine Ev.step (f := fun _ => some true) (fun k => ?_) (Ev.same (Ev.now true) ?_)
    · simp only [slices_Equal_string_string.l0]; rw [if_neg (by omega)]
    · rw [List.drop_eq_nil_of_le (Nat.le_refl _), List.drop_eq_nil_of_le (by omega)]; rfl
  · intro i hi h
    rw [drop_at a i hi, drop_at b i (by omega)]
    by_cases e : a[i] = b[i]
    · refine Ev.step (fun k => ?_) (Ev.same h (dec_yes e _ _))
      simp only [slices_Equal_string_string.l0]
      rw [if_pos (by omega), if_pos (by omega), if_pos (by omega), if_pos (by omega), rdOf_at _ a i hi, rdOf_at _ b i (by omega), if_pos (by rw [e]), w64 (by omega) (by omega)]
      rfl
    · refine Ev.step (f := fun _ => some false) (fun k => ?_) (Ev.same (Ev.now false) (dec_no e _ _))
      simp only [slices_Equal_string_string.l0]
      rw [if_pos (by omega), if_pos (by omega), if_pos (by omega), if_pos (by omega), rdOf_at _ a i hi, rdOf_at _ b i (by omega), if_neg (fun h => e (toList_inj h))]
theorem eqS_ev (a b : List ByteArray) (hm : a.length ≤ 1000000000000) : Ev (fun k => slices_Equal_string_string.f k a b) (decide (a = b)) := by
  by_cases hl : a.length = b.length
  · refine Ev.fn (fun k => ?_) (eqs_ev a b hl hm 0 (by omega))
    unfold slices_Equal_string_string.f; rw [if_pos (by omega)]; rfl
  · refine Ev.fn (f := fun _ => some false) (fun k => ?_) (Ev.same (Ev.now false) ?_)
    · unfold slices_Equal_string_string.f; rw [if_neg (by omega)]
    · have : a ≠ b := fun h => hl (by rw [h])
      simp [this]

theorem txs_ev (a b : List ByteArray) (hl : a.length = b.length) (hm : a.length ≤ 1000000000000) : ∀ i, i ≤ a.length → Ev (fun k => caravanref1_Texts.l0 k a b (i : Int)) (decide (a.drop i = b.drop i)) := by
  refine up ?_ ?_
  · refine Ev.step (f := fun _ => some true) (fun k => ?_) (Ev.same (Ev.now true) ?_)
    · simp only [caravanref1_Texts.l0]; rw [if_neg (by omega)]
    · rw [List.drop_eq_nil_of_le (Nat.le_refl _), List.drop_eq_nil_of_le (by omega)]; rfl
  · intro i hi h
    rw [drop_at a i hi, drop_at b i (by omega)]
    by_cases e : a[i] = b[i]
    · refine Ev.step (fun k => ?_) (Ev.same h (dec_yes e _ _))
      simp only [caravanref1_Texts.l0]
      rw [if_pos (by omega), if_pos (by omega), if_pos (by omega), rdOf_at _ a i hi, rdOf_at _ b i (by omega), if_pos (by rw [e]), w64 (by omega) (by omega)]
      rfl
    · refine Ev.step (f := fun _ => some false) (fun k => ?_) (Ev.same (Ev.now false) (dec_no e _ _))
      simp only [caravanref1_Texts.l0]
      rw [if_pos (by omega), if_pos (by omega), if_pos (by omega), rdOf_at _ a i hi, rdOf_at _ b i (by omega), if_neg (fun h => e (toList_inj h))]
theorem texts_ev (a b : List ByteArray) (hm : a.length ≤ 1000000000000) : Ev (fun k => caravanref1_Texts.f k a b) (decide (a = b)) := by
  by_cases hl : a.length = b.length
  · refine Ev.fn (fun k => ?_) (txs_ev a b hl hm 0 (by omega))
    unfold caravanref1_Texts.f; rw [if_pos (by omega)]; rfl
  · refine Ev.fn (f := fun _ => some false) (fun k => ?_) (Ev.same (Ev.now false) ?_)
    · unfold caravanref1_Texts.f; rw [if_neg (by omega)]
    · have : a ≠ b := fun h => hl (by rw [h])
      simp [this]

theorem neF (x y : S29) : (!(x.f0.toList == y.f0.toList) || (!(x.f1.toList == y.f1.toList))) = !decide (x = y) := by
  rw [Bool.eq_iff_iff]
  simp only [beq_toList, s29_ext]
  by_cases h1 : x.f0 = y.f0 <;> by_cases h2 : x.f1 = y.f1 <;> simp [h1, h2]

theorem eqf_ev (a b : List S29) (hl : a.length = b.length) (hm : a.length ≤ 1000000000000) : ∀ i, i ≤ a.length → Ev (fun k => api_Field_24.l0 k a b (a.length : Int) (i : Int)) (decide (a.drop i = b.drop i)) := by
  refine up ?_ ?_
  · refine Ev.step (f := fun _ => some true) (fun k => ?_) (Ev.same (Ev.now true) ?_)
    · simp only [api_Field_24.l0]; rw [if_neg (by omega)]
    · rw [List.drop_eq_nil_of_le (Nat.le_refl _), List.drop_eq_nil_of_le (by omega)]; rfl
  · intro i hi h
    rw [drop_at a i hi, drop_at b i (by omega)]
    by_cases e : a[i] = b[i]
    · refine Ev.step (fun k => ?_) (Ev.same h (dec_yes e _ _))
      simp only [api_Field_24.l0]
      rw [if_pos (by omega), if_pos (by omega), if_pos (by omega), if_pos (by omega), rd29_at a i hi, rd29_at b i (by omega), neF, if_neg (by simp [e]), w64 (by omega) (by omega)]
      rfl
    · refine Ev.step (f := fun _ => some false) (fun k => ?_) (Ev.same (Ev.now false) (dec_no e _ _))
      simp only [api_Field_24.l0]
      rw [if_pos (by omega), if_pos (by omega), if_pos (by omega), if_pos (by omega), rd29_at a i hi, rd29_at b i (by omega), neF, if_pos (by simp [e])]
theorem eqF_ev (a b : List S29) (hm : a.length ≤ 1000000000000) : Ev (fun k => api_Field_24.f k a b) (decide (a = b)) := by
  by_cases hl : a.length = b.length
  · refine Ev.fn (fun k => ?_) (eqf_ev a b hl hm 0 (by omega))
    unfold api_Field_24.f; rw [if_pos (by omega)]; rfl
  · refine Ev.fn (f := fun _ => some false) (fun k => ?_) (Ev.same (Ev.now false) ?_)
    · unfold api_Field_24.f; rw [if_neg (by omega)]
    · have : a ≠ b := fun h => hl (by rw [h])
      simp [this]
theorem sff_ev (a b : List S29) (hl : a.length = b.length) (hm : a.length ≤ 1000000000000) : ∀ i, i ≤ a.length → Ev (fun k => caravanref5_SameFields.l0 k a b (i : Int)) (decide (a.drop i = b.drop i)) := by
  refine up ?_ ?_
  · refine Ev.step (f := fun _ => some true) (fun k => ?_) (Ev.same (Ev.now true) ?_)
    · simp only [caravanref5_SameFields.l0]; rw [if_neg (by omega)]
    · rw [List.drop_eq_nil_of_le (Nat.le_refl _), List.drop_eq_nil_of_le (by omega)]; rfl
  · intro i hi h
    rw [drop_at a i hi, drop_at b i (by omega)]
    by_cases e : a[i] = b[i]
    · refine Ev.step (fun k => ?_) (Ev.same h (dec_yes e _ _))
      simp only [caravanref5_SameFields.l0]
      rw [if_pos (by omega), if_pos (by omega), if_pos (by omega), rd29_at a i hi, rd29_at b i (by omega), neF, if_neg (by simp [e]), w64 (by omega) (by omega)]
      rfl
    · refine Ev.step (f := fun _ => some false) (fun k => ?_) (Ev.same (Ev.now false) (dec_no e _ _))
      simp only [caravanref5_SameFields.l0]
      rw [if_pos (by omega), if_pos (by omega), if_pos (by omega), rd29_at a i hi, rd29_at b i (by omega), neF, if_pos (by simp [e])]
theorem sameFields_ev (a b : List S29) (hm : a.length ≤ 1000000000000) : Ev (fun k => caravanref5_SameFields.f k a b) (decide (a = b)) := by
  by_cases hl : a.length = b.length
  · refine Ev.fn (fun k => ?_) (sff_ev a b hl hm 0 (by omega))
    unfold caravanref5_SameFields.f; rw [if_pos (by omega)]; rfl
  · refine Ev.fn (f := fun _ => some false) (fun k => ?_) (Ev.same (Ev.now false) ?_)
    · unfold caravanref5_SameFields.f; rw [if_neg (by omega)]
    · have : a ≠ b := fun h => hl (by rw [h])
      simp [this]

/-- an item's five parts, as one -/
structure It where
  k : Int
  s : ByteArray
  f : List S29
  l : List ByteArray
  e : Int
deriving DecidableEq
def sameB (a b : It) : Bool := decide (a.k = b.k) && (decide (a.s = b.s) && (decide (a.e = b.e) && (decide (a.f = b.f) && decide (a.l = b.l))))
theorem sameB_iff (a b : It) : sameB a b = true ↔ a = b := by
  cases a; cases b
  simp only [sameB, Bool.and_eq_true, decide_eq_true_eq, It.mk.injEq]
  constructor
  · rintro ⟨h1, h2, h3, h4, h5⟩; exact ⟨h1, h2, h4, h5, h3⟩
  · rintro ⟨h1, h2, h3, h4, h5⟩; exact ⟨h1, h2, h5, h3, h4⟩
theorem same_ev (a b : It) (h1 : a.f.length ≤ 1000000000000) (h2 : a.l.length ≤ 1000000000000) : Ev (fun k => item_Same.f k a.k a.s a.f a.l a.e b.k b.s b.f b.l b.e) (sameB a b) := by
  obtain ⟨K1, q1⟩ := eqF_ev a.f b.f h1
  obtain ⟨K2, q2⟩ := eqS_ev a.l b.l h2
  refine ⟨K1 + K2, fun k hk => ?_⟩
  have r1 : api_Field_24.f k a.f b.f = some (decide (a.f = b.f)) := q1 k (by omega)
  have r2 : slices_Equal_string_string.f k a.l b.l = some (decide (a.l = b.l)) := q2 k (by omega)
  dsimp only
  unfold item_Same.f sameB
  rw [r1, r2]
  simp only [Option.bind_some, toList_iff]
  by_cases c1 : a.k = b.k <;> by_cases c2 : a.s = b.s <;> by_cases c3 : a.e = b.e <;> by_cases c4 : a.f = b.f <;> simp [c1, c2, c3, c4]
theorem docsame_ev (a b : It) (h1 : a.f.length ≤ 1000000000000) (h2 : a.l.length ≤ 1000000000000) : Ev (fun k => caravanref5_SameItem.f k a.k a.s a.f a.l a.e b.k b.s b.f b.l b.e) (sameB a b) := by
  obtain ⟨K1, q1⟩ := sameFields_ev a.f b.f h1
  obtain ⟨K2, q2⟩ := texts_ev a.l b.l h2
  refine ⟨K1 + K2, fun k hk => ?_⟩
  have r1 : caravanref5_SameFields.f k a.f b.f = some (decide (a.f = b.f)) := q1 k (by omega)
  have r2 : caravanref1_Texts.f k a.l b.l = some (decide (a.l = b.l)) := q2 k (by omega)
  dsimp only
  unfold caravanref5_SameItem.f sameB
  rw [r1, r2]
  simp only [Option.bind_some, toList_iff]
  by_cases c1 : a.k = b.k <;> by_cases c2 : a.s = b.s <;> by_cases c3 : a.e = b.e <;> by_cases c4 : a.f = b.f <;> simp [c1, c2, c3, c4]
theorem copy_eq (a : It) (h1 : a.f.length ≤ 1000000000) (h2 : a.l.length ≤ 1000000000) : item_Copy.f a.k a.s a.f a.l a.e = some (a.k, a.s, a.f, a.l, a.e) := by
  unfold item_Copy.f api_Field_28.f slices_Clone_string_string.f
  rw [if_pos (by omega), if_pos (by omega)]; rfl
theorem low_less (x y : ByteArray) : lowP y x = false ↔ Op.bytesLess x.toList y.toList = true := by
  unfold lowP
  constructor
  · intro h
    rw [Bool.or_eq_false_iff] at h
    rcases less_total x.toList y.toList with q | q | q
    · exact q
    · rw [q] at h; simp at h
    · rw [q] at h; cases h.1
  · intro h
    cases q : Op.bytesLess y.toList x.toList
    · cases q2 : (y.toList == x.toList)
      · rfl
      · rw [beq_iff_eq.1 q2, less_irrefl] at h; cases h
    · have := less_trans _ _ _ h q
      rw [less_irrefl] at this; cases this
end Go.Proofs.Ytbmimcpllpgcaaa.Pure
