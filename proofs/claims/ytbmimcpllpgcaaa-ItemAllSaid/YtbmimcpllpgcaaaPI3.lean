/- Plain laws about items, for the statements: what may be is what the document says; what is great. Conditions: bounds on lengths. -/
import Derived.Test.YtbmimcpllpgcaaaPI2
import Derived.Test.YtbmimcpllpgcaaaG13
namespace Go.Proofs.Ytbmimcpllpgcaaa.Pure
open Go.RowKit Go.Pk Go.Proofs.Ytbmimcpllpgcaaa.G Go.Proofs.YtbmimcpllpgcaaaW.PrintWords Go.Proofs.YtbmimcpllpgcaaaW.PrintLast

theorem low_less (x y : ByteArray) : lowP y x = false ↔ Op.bytesLess x.toList y.toList = true := by
  unfold lowP
  constructor
  · intro h
    rw [Bool.or_eq_false_iff] at h
    rcases less_total x.toList y.toList with q | q | q
    · exact q
    · rw [q] at h; simp at h
    · rw [q] at h; cases h.1
  · intro h
    cases q : Op.bytesLess y.toList x.toList
    · cases q2 : (y.toList == x.toList)
      · rfl
      · rw [beq_iff_eq.1 q2, less_irrefl] at h; cases h
    · have := less_trans _ _ _ h q
      rw [less_irrefl] at this; cases this
def risesAt (l : List ByteArray) : Prop := ∀ j, 0 < j → j < l.length → Op.bytesLess (rdOf ByteArray.empty l ((j : Int) - 1)).toList (rdOf ByteArray.empty l j).toList = true
theorem rdOf_succ (x : ByteArray) (l : List ByteArray) (j : Nat) : rdOf ByteArray.empty (x :: l) ((j + 1 : Nat) : Int) = rdOf ByteArray.empty l j := by
  unfold rdOf; rw [Int.toNat_natCast, Int.toNat_natCast, List.getD_cons_succ]
theorem rises_at (l : List ByteArray) : risesB l = true ↔ risesAt l := by
  induction l with
  | nil => exact ⟨fun _ j _ h => by simp at h, fun _ => rfl⟩
  | cons x l ih =>
    cases l with
    | nil => exact ⟨fun _ j h0 h => by simp at h; omega, fun _ => rfl⟩
    | cons y l =>
      rw [show risesB (x :: y :: l) = (!lowP y x && risesB (y :: l)) from rfl, Bool.and_eq_true, ih, Bool.not_eq_true', low_less]
      constructor
      · rintro ⟨h1, h2⟩ j hj hl
        obtain ⟨j, rfl⟩ : ∃ i, j = i + 1 := ⟨j - 1, by omega⟩
        rw [show ((j + 1 : Nat) : Int) - 1 = (j : Int) by omega, rdOf_succ]
        cases j with
        | zero => exact h1
        | succ j =>
          rw [rdOf_succ]
          have := h2 (j + 1) (by omega) (by simpa using hl)
          rwa [show ((j + 1 : Nat) : Int) - 1 = (j : Int) by omega] at this
      · intro h
        refine ⟨h 1 (by omega) (by simp), fun j hj hl => ?_⟩
        obtain ⟨j, rfl⟩ : ∃ i, j = i + 1 := ⟨j - 1, by omega⟩
        have := h (j + 2) (by omega) (by simpa using hl)
        rw [show ((j + 2 : Nat) : Int) - 1 = ((j + 1 : Nat) : Int) by omega, rdOf_succ, rdOf_succ] at this
        rwa [show ((j + 1 : Nat) : Int) - 1 = (j : Int) by omega]

/-- what the document asks of a field, of a text -/
def okF (f : List S29) (j : Nat) : Prop := (rd_T29 f j).f0.size ≤ 300 ∧ (rd_T29 f j).f1.size ≤ 300 ∧ (0 < j → Op.bytesLess (rd_T29 f ((j : Int) - 1)).f0.toList (rd_T29 f j).f0.toList = true)
def okL (k : Int) (l : List ByteArray) (j : Nat) : Prop := (rdOf ByteArray.empty l j).size ≤ 300 ∧ (k = 4 → 0 < j → Op.bytesLess (rdOf ByteArray.empty l ((j : Int) - 1)).toList (rdOf ByteArray.empty l j).toList = true)

theorem docL (x : It) (hm : x.l.length ≤ 1000000000000) : ∀ i, i ≤ x.l.length → ∃ b, Ev (fun k => caravanref5_MayItem.l1 k (i : Int) x.k x.s x.f x.l x.e) b ∧ (b = true ↔ ∀ j, i ≤ j → j < x.l.length → okL x.k x.l j) := by
  refine up ?_ ?_
  · refine ⟨true, Ev.step (f := fun _ => some true) (fun k => ?_) (Ev.now true), ?_⟩
    · simp only [caravanref5_MayItem.l1]; rw [if_neg (by omega)]
    · exact ⟨fun _ j h1 h2 => by omega, fun _ => rfl⟩
  · rintro i hi ⟨b, hb, hq⟩
    by_cases h1 : (rdOf ByteArray.empty x.l (i : Int)).size ≤ 300
    · by_cases h2 : x.k = 4 ∧ 0 < i
      · have hw : wrap64 ((i : Int) - 1) = (i : Int) - 1 := w64 (by omega) (by omega)
        by_cases h3 : Op.bytesLess (rdOf ByteArray.empty x.l ((i : Int) - 1)).toList (rdOf ByteArray.empty x.l i).toList = true
        · refine ⟨b, Ev.step (fun k => ?_) hb, ?_⟩
          · simp only [caravanref5_MayItem.l1]
            rw [if_pos (by omega), if_pos (by omega), if_neg (by omega), if_pos h2.1, if_pos (by omega), hw, if_pos (by omega), if_pos (by omega), if_pos h3, w64 (by omega) (by omega)]
            rfl
          · rw [hq]
            constructor
            · intro h j hj hl
              rcases Nat.eq_or_lt_of_le hj with rfl | hj
              · exact ⟨h1, fun _ _ => h3⟩
              · exact h j hj hl
            · exact fun h j hj hl => h j (by omega) hl
        · refine ⟨false, Ev.step (f := fun _ => some false) (fun k => ?_) (Ev.now false), ?_⟩
          · simp only [caravanref5_MayItem.l1]
            rw [if_pos (by omega), if_pos (by omega), if_neg (by omega), if_pos h2.1, if_pos (by omega), hw, if_pos (by omega), if_pos (by omega), if_neg h3]
          · exact ⟨fun h => (by cases h), fun h => absurd ((h i (Nat.le_refl _) hi).2 h2.1 h2.2) h3⟩
      · refine ⟨b, Ev.step (fun k => ?_) hb, ?_⟩
        · simp only [caravanref5_MayItem.l1]
          rw [if_pos (by omega), if_pos (by omega), if_neg (by omega)]
          by_cases h4 : x.k = 4
          · rw [if_pos h4, if_neg (by omega), w64 (by omega) (by omega)]; rfl
          · rw [if_neg h4, w64 (by omega) (by omega)]; rfl
        · rw [hq]
          constructor
          · intro h j hj hl
            rcases Nat.eq_or_lt_of_le hj with rfl | hj
            · exact ⟨h1, fun a b => absurd ⟨a, b⟩ h2⟩
            · exact h j hj hl
          · exact fun h j hj hl => h j (by omega) hl
    · refine ⟨false, Ev.step (f := fun _ => some false) (fun k => ?_) (Ev.now false), ?_⟩
      · simp only [caravanref5_MayItem.l1]
        rw [if_pos (by omega), if_pos (by omega), if_pos (by omega)]
      · exact ⟨fun h => (by cases h), fun h => absurd (h i (Nat.le_refl _) hi).1 h1⟩

theorem docF (x : It) (hf : x.f.length ≤ 1000000000000) (hm : x.l.length ≤ 1000000000000) : ∀ i, i ≤ x.f.length → ∃ b, Ev (fun k => caravanref5_MayItem.l0 k (i : Int) x.k x.s x.f x.l x.e) b ∧ (b = true ↔ (∀ j, i ≤ j → j < x.f.length → okF x.f j) ∧ ∀ j, j < x.l.length → okL x.k x.l j) := by
  refine up ?_ ?_
  · obtain ⟨b, hb, hq⟩ := docL x hm 0 (by omega)
    refine ⟨b, Ev.step (fun k => ?_) hb, ?_⟩
    · simp only [caravanref5_MayItem.l0]; rw [if_neg (by omega)]; rfl
    · rw [hq]
      exact ⟨fun h => ⟨fun j h1 h2 => by omega, fun j hj => h j (by omega) hj⟩, fun h j _ hj => h.2 j hj⟩
  · rintro i hi ⟨b, hb, hq⟩
    by_cases h1 : (rd_T29 x.f (i : Int)).f0.size ≤ 300
    · by_cases h1' : (rd_T29 x.f (i : Int)).f1.size ≤ 300
      · by_cases h2 : 0 < i
        · have hw : wrap64 ((i : Int) - 1) = (i : Int) - 1 := w64 (by omega) (by omega)
          by_cases h3 : Op.bytesLess (rd_T29 x.f ((i : Int) - 1)).f0.toList (rd_T29 x.f i).f0.toList = true
          · refine ⟨b, Ev.step (fun k => ?_) hb, ?_⟩
            · simp only [caravanref5_MayItem.l0]
              rw [if_pos (by omega), if_pos (by omega), if_neg (by omega), if_neg (by omega), if_pos (by omega), hw, if_pos (by omega), if_pos (by omega), if_pos h3, w64 (by omega) (by omega)]
              rfl
            · rw [hq]
              constructor
              · rintro ⟨h, h'⟩
                refine ⟨fun j hj hl => ?_, h'⟩
                rcases Nat.eq_or_lt_of_le hj with rfl | hj
                · exact ⟨h1, h1', fun _ => h3⟩
                · exact h j hj hl
              · exact fun h => ⟨fun j hj hl => h.1 j (by omega) hl, h.2⟩
          · refine ⟨false, Ev.step (f := fun _ => some false) (fun k => ?_) (Ev.now false), ?_⟩
            · simp only [caravanref5_MayItem.l0]
              rw [if_pos (by omega), if_pos (by omega), if_neg (by omega), if_neg (by omega), if_pos (by omega), hw, if_pos (by omega), if_pos (by omega), if_neg h3]
            · exact ⟨fun h => (by cases h), fun h => absurd ((h.1 i (Nat.le_refl _) hi).2.2 h2) h3⟩
        · refine ⟨b, Ev.step (fun k => ?_) hb, ?_⟩
          · simp only [caravanref5_MayItem.l0]
            rw [if_pos (by omega), if_pos (by omega), if_neg (by omega), if_neg (by omega), if_neg (by omega), w64 (by omega) (by omega)]
            rfl
          · rw [hq]
            constructor
            · rintro ⟨h, h'⟩
              refine ⟨fun j hj hl => ?_, h'⟩
              rcases Nat.eq_or_lt_of_le hj with rfl | hj
              · exact ⟨h1, h1', fun a => absurd a h2⟩
              · exact h j hj hl
            · exact fun h => ⟨fun j hj hl => h.1 j (by omega) hl, h.2⟩
      · refine ⟨false, Ev.step (f := fun _ => some false) (fun k => ?_) (Ev.now false), ?_⟩
        · simp only [caravanref5_MayItem.l0]
          rw [if_pos (by omega), if_pos (by omega), if_neg (by omega), if_pos (by omega)]
        · exact ⟨fun h => (by cases h), fun h => absurd (h.1 i (Nat.le_refl _) hi).2.1 h1'⟩
    · refine ⟨false, Ev.step (f := fun _ => some false) (fun k => ?_) (Ev.now false), ?_⟩
      · simp only [caravanref5_MayItem.l0]
        rw [if_pos (by omega), if_pos (by omega), if_pos (by omega)]
      · exact ⟨fun h => (by cases h), fun h => absurd (h.1 i (Nat.le_refl _) hi).1 h1⟩

def bareB (x : It) : Bool := (x.k == 1 && x.f.length == 0 && x.l.length == 0) || (x.k == 2 && x.s.toList.isEmpty && x.l.length == 0 && decide (0 < x.f.length)) || ((x.k == 3 || x.k == 4) && x.s.toList.isEmpty && x.f.length == 0 && decide (0 < x.l.length))
theorem bare_eq (x : It) : caravanref5_bare.f x.k x.s x.f x.l x.e = some (bareB x) := by
  unfold caravanref5_bare.f bareB
  have he : x.s.toList = [] ↔ x.s.toList.isEmpty = true := by simp
  have e1 : ((x.l.length : Int) == 0) = (x.l.length == 0) := by rw [Bool.eq_iff_iff]; simp
  have e2 : ((x.f.length : Int) = 0) = (x.f.length = 0) := by simp
  have e3 : ((x.l.length : Int) = 0) = (x.l.length = 0) := by simp
  have e4 : ((x.f.length : Int) > 0) = (0 < x.f.length) := by simp
  have e5 : ((x.l.length : Int) > 0) = (0 < x.l.length) := by simp
  simp only [he, e1, e2, e3, e4, e5]
  by_cases k1 : x.k = 1
  · rw [if_pos k1]; by_cases q : x.f.length = 0 <;> simp [k1, q]
  · rw [if_neg k1]
    by_cases k2 : x.k = 2
    · rw [if_pos k2]; by_cases q : x.s.toList.isEmpty = true <;> by_cases q2 : x.l.length = 0 <;> simp [k2, q, q2]
    · rw [if_neg k2]
      by_cases k3 : x.k = 3
      · rw [if_pos k3]; by_cases q : x.s.toList.isEmpty = true <;> by_cases q2 : x.f.length = 0 <;> simp [k3, q, q2]
      · rw [if_neg k3]
        by_cases k4 : x.k = 4
        · rw [if_pos k4]; by_cases q : x.s.toList.isEmpty = true <;> by_cases q2 : x.f.length = 0 <;> simp [k4, q, q2]
        · rw [if_neg k4]; simp [k1, k2, k3, k4]

theorem all_at {α : Type} (d : α) (l : List α) (p : α → Prop) : (∀ x ∈ l, p x) ↔ ∀ j, j < l.length → p (l.getD j d) := by
  constructor
  · intro h j hj
    rw [List.getD_eq_getElem?_getD, List.getElem?_eq_getElem hj]
    exact h _ (List.getElem_mem hj)
  · intro h x hx
    obtain ⟨j, hj, rfl⟩ := List.getElem_of_mem hx
    have := h j hj
    rw [List.getD_eq_getElem?_getD, List.getElem?_eq_getElem hj] at this
    exact this
theorem rd_f0 (f : List S29) (i : Int) (h0 : 0 ≤ i) (h : i < f.length) : rdOf ByteArray.empty (f.map S29.f0) i = (rd_T29 f i).f0 := by
  unfold rdOf rd_T29
  have : i.toNat < f.length := by omega
  rw [List.getD_eq_getElem?_getD, List.getD_eq_getElem?_getD, List.getElem?_map, List.getElem?_eq_getElem this]; rfl

theorem doc_may (x : It) (hf : x.f.length ≤ 1000000000) (hl : x.l.length ≤ 1000000000) : Ev (fun k => caravanref5_MayItem.f k x.k x.s x.f x.l x.e) (mayB x.k x.s x.f x.l x.e) := by
  have hj : Ev (fun k => caravanref5_MayItem.j0 k true x.k x.s x.f x.l x.e) false := Ev.step (f := fun _ => some false) (fun k => by simp only [caravanref5_MayItem.j0, if_true]) (Ev.now false)
  obtain ⟨b, hb, hq⟩ := docF x (by omega) (by omega) 0 (by omega)
  have hj2 : Ev (fun k => caravanref5_MayItem.j0 k false x.k x.s x.f x.l x.e) b := Ev.step (fun k => by simp only [caravanref5_MayItem.j0]; rw [if_neg (by simp)]; rfl) hb
  have hmay : mayB x.k x.s x.f x.l x.e = true ↔ bareB x = true ∧ x.s.size ≤ 300 ∧ x.f.length ≤ 40 ∧ x.l.length ≤ 40 ∧ 0 ≤ x.e ∧ x.e ≤ 9007199254740992 ∧ (∀ j, j < x.f.length → okF x.f j) ∧ ∀ j, j < x.l.length → okL x.k x.l j := by
    have hsz : (x.s :: (x.f.flatMap fun x => [x.f0, x.f1]) ++ x.l).all (fun t => decide (t.size ≤ 300)) = true ↔ x.s.size ≤ 300 ∧ (∀ j, j < x.f.length → (rd_T29 x.f j).f0.size ≤ 300 ∧ (rd_T29 x.f j).f1.size ≤ 300) ∧ ∀ j, j < x.l.length → (rdOf ByteArray.empty x.l j).size ≤ 300 := by
      rw [List.cons_append, List.all_cons, List.all_append, List.all_flatMap, Bool.and_eq_true, Bool.and_eq_true, List.all_eq_true, List.all_eq_true, decide_eq_true_eq, all_at z29, all_at ByteArray.empty]
      simp [rd_T29, rdOf]
    have hri : risesB (x.f.map S29.f0) = true ↔ ∀ j, 0 < j → j < x.f.length → Op.bytesLess (rd_T29 x.f ((j : Int) - 1)).f0.toList (rd_T29 x.f j).f0.toList = true := by
      rw [rises_at]; unfold risesAt
      rw [List.length_map]
      exact ⟨fun h j h0 h1 => by have := h j h0 h1; rwa [rd_f0 _ _ (by omega) (by omega), rd_f0 _ _ (by omega) (by omega)] at this,
        fun h j h0 h1 => by rw [rd_f0 _ _ (by omega) (by omega), rd_f0 _ _ (by omega) (by omega)]; exact h j h0 h1⟩
    have hrl := rises_at x.l
    unfold risesAt at hrl
    unfold mayB shapedB bareB okF okL
    rw [Bool.and_eq_true, Bool.and_eq_true, Bool.and_eq_true, hsz]
    simp only [Bool.or_eq_true, Bool.and_eq_true, beq_iff_eq, decide_eq_true_eq, someB, hri, hrl]
    constructor
    · rintro ⟨⟨⟨hs, h1⟩, h2⟩, h3, h4, h5⟩
      rcases hs with ((⟨a, b⟩ | ⟨⟨⟨⟨a, b⟩, c⟩, d1, d2⟩, d⟩) | ⟨⟨⟨a, b⟩, c⟩, d1, d2⟩) | ⟨⟨⟨⟨a, b⟩, c⟩, d1, d2⟩, d⟩
      · exact ⟨.inl (.inl ⟨⟨a, by omega⟩, by omega⟩), h3, by omega, by omega, h1, h2, fun j hj => by omega, fun j hj => by omega⟩
      · exact ⟨.inl (.inr ⟨⟨⟨a, b⟩, c⟩, by omega⟩), h3, by omega, by omega, h1, h2, fun j hj => ⟨(h4 j hj).1, (h4 j hj).2, fun h0 => d j h0 hj⟩, fun j hj => by omega⟩
      · exact ⟨.inr ⟨⟨⟨.inl a, b⟩, c⟩, by omega⟩, h3, by omega, by omega, h1, h2, fun j hj => by omega, fun j hj => ⟨h5 j hj, fun h => by omega⟩⟩
      · exact ⟨.inr ⟨⟨⟨.inr a, b⟩, c⟩, by omega⟩, h3, by omega, by omega, h1, h2, fun j hj => by omega, fun j hj => ⟨h5 j hj, fun _ h0 => d j h0 hj⟩⟩
    · rintro ⟨hb, h3, h4, h5, h1, h2, h6, h7⟩
      refine ⟨⟨⟨?_, h1⟩, h2⟩, h3, fun j hj => ⟨(h6 j hj).1, (h6 j hj).2.1⟩, fun j hj => (h7 j hj).1⟩
      rcases hb with (⟨⟨a, b⟩, c⟩ | ⟨⟨⟨a, b⟩, c⟩, d⟩) | ⟨⟨⟨a | a, b⟩, c⟩, d⟩
      · exact .inl (.inl (.inl ⟨a, by omega⟩))
      · exact .inl (.inl (.inr ⟨⟨⟨⟨a, b⟩, c⟩, by omega, h4⟩, fun j h0 hj => (h6 j hj).2.2 h0⟩))
      · exact .inl (.inr ⟨⟨⟨a, b⟩, c⟩, by omega, h5⟩)
      · exact .inr ⟨⟨⟨⟨a, b⟩, c⟩, by omega, h5⟩, fun j h0 hj => (h7 j hj).2 a h0⟩
  have hno : ∀ {P : Prop}, ¬ P → (mayB x.k x.s x.f x.l x.e = true → P) → mayB x.k x.s x.f x.l x.e = false := fun hn h => by
    cases q : mayB x.k x.s x.f x.l x.e
    · rfl
    · exact absurd (h q) hn
  by_cases c0 : bareB x = true
  · by_cases c1 : x.s.size ≤ 300
    · by_cases c2 : x.f.length ≤ 40
      · by_cases c3 : x.l.length ≤ 40
        · by_cases c4 : 0 ≤ x.e
          · by_cases c5 : x.e ≤ 9007199254740992
            · refine Ev.fn (fun k => ?_) (Ev.same hj2 ?_)
              · unfold caravanref5_MayItem.f
                rw [bare_eq, Option.bind_some, if_pos c0, if_neg (by omega), if_neg (by omega), if_neg (by omega), if_neg (by omega), show decide (x.e > 9007199254740992) = false by simp; omega]
              · rw [Bool.eq_iff_iff, hmay, hq]
                exact ⟨fun h => ⟨c0, c1, c2, c3, c4, c5, fun j => h.1 j (by omega), h.2⟩, fun h => ⟨fun j _ => h.2.2.2.2.2.2.1 j, h.2.2.2.2.2.2.2⟩⟩
            · rw [hno c5 (fun h => (hmay.1 h).2.2.2.2.2.1)]
              refine Ev.fn (fun k => ?_) hj
              unfold caravanref5_MayItem.f
              rw [bare_eq, Option.bind_some, if_pos c0, if_neg (by omega), if_neg (by omega), if_neg (by omega), if_neg (by omega), show decide (x.e > 9007199254740992) = true by simp; omega]
          · rw [hno c4 (fun h => (hmay.1 h).2.2.2.2.1)]
            refine Ev.fn (fun k => ?_) hj
            unfold caravanref5_MayItem.f
            rw [bare_eq, Option.bind_some, if_pos c0, if_neg (by omega), if_neg (by omega), if_neg (by omega), if_pos (by omega)]
        · rw [hno c3 (fun h => (hmay.1 h).2.2.2.1)]
          refine Ev.fn (fun k => ?_) hj
          unfold caravanref5_MayItem.f
          rw [bare_eq, Option.bind_some, if_pos c0, if_neg (by omega), if_neg (by omega), if_pos (by omega)]
      · rw [hno c2 (fun h => (hmay.1 h).2.2.1)]
        refine Ev.fn (fun k => ?_) hj
        unfold caravanref5_MayItem.f
        rw [bare_eq, Option.bind_some, if_pos c0, if_neg (by omega), if_pos (by omega)]
    · rw [hno c1 (fun h => (hmay.1 h).2.1)]
      refine Ev.fn (fun k => ?_) hj
      unfold caravanref5_MayItem.f
      rw [bare_eq, Option.bind_some, if_pos c0, if_pos (by omega)]
  · rw [hno c0 (fun h => (hmay.1 h).1)]
    refine Ev.fn (fun k => ?_) hj
    unfold caravanref5_MayItem.f
    rw [bare_eq, Option.bind_some, if_neg c0]
end Go.Proofs.Ytbmimcpllpgcaaa.Pure
