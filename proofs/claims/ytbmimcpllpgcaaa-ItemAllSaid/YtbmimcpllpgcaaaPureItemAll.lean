/- The plain statement of ItemAll: what the program says of any items is what the document says. Conditions: lengths within the form's reach. -/
import Derived.Test.YtbmimcpllpgcaaaPI3
import Derived.Test.YtbmimcpllpgcaaaG14
namespace Go.Proofs.Ytbmimcpllpgcaaa.Pure
open Go.RowKit Go.Pk Go.Proofs.Ytbmimcpllpgcaaa.G Go.Proofs.YtbmimcpllpgcaaaW.PrintWords Go.Proofs.YtbmimcpllpgcaaaW.PrintLast

theorem greatL (x : It) (hm : x.l.length ≤ 100000000000000) : ∀ i, i ≤ min x.l.length 60 → ∃ b, Ev (fun k => caravanlaw5_Great.l1 k (i : Int) x.k x.s x.f x.l x.e) b ∧ (b = false → x.f.length ≤ 50 ∧ x.l.length ≤ 50) := by
  refine up ?_ ?_
  · have hj : ∃ b, Ev (fun k => caravanlaw5_Great.j3 k ((min x.l.length 60 : Nat) : Int) false x.k x.s x.f x.l x.e) b ∧ (b = false → x.f.length ≤ 50 ∧ x.l.length ≤ 50) := by
      by_cases h1 : (x.s.size : Int) > 1000
      · exact ⟨true, Ev.step (f := fun _ => some true) (fun k => by simp only [caravanlaw5_Great.j3]; rw [if_neg (by simp), if_pos h1]) (Ev.now true), fun h => by cases h⟩
      · by_cases h2 : (x.f.length : Int) > 50
        · exact ⟨true, Ev.step (f := fun _ => some true) (fun k => by simp only [caravanlaw5_Great.j3]; rw [if_neg (by simp), if_neg h1, if_pos h2]) (Ev.now true), fun h => by cases h⟩
        · refine ⟨decide ((x.l.length : Int) > 50), Ev.step (f := fun _ => some _) (fun k => by simp only [caravanlaw5_Great.j3]; rw [if_neg (by simp), if_neg h1, if_neg h2]) (Ev.now _), fun h => ?_⟩
          have := of_decide_eq_false h
          omega
    obtain ⟨b, hb, hq⟩ := hj
    refine ⟨b, Ev.step (fun k => ?_) hb, hq⟩
    simp only [caravanlaw5_Great.l1]
    by_cases hlt : ((min x.l.length 60 : Nat) : Int) < (x.l.length : Int)
    · rw [if_pos hlt, show decide (((min x.l.length 60 : Nat) : Int) < 60) = false by simp; omega]
    · rw [if_neg hlt]
  · rintro i hi ⟨b, hb, hq⟩
    by_cases h1 : ((rdOf ByteArray.empty x.l (i : Int)).size : Int) > 400
    · refine ⟨true, Ev.step (f := fun k => caravanlaw5_Great.j3 k (i : Int) true x.k x.s x.f x.l x.e) (fun k => ?_) (Ev.step (f := fun _ => some true) (fun k => ?_) (Ev.now true)), fun h => by cases h⟩
      · simp only [caravanlaw5_Great.l1]; rw [if_pos (by omega), show decide ((i : Int) < 60) = true by simp; omega]
      · simp only [caravanlaw5_Great.j3]; rw [if_pos trivial, if_pos (by omega), if_pos (by omega), if_pos h1]
    · refine ⟨b, Ev.step (f := fun k => caravanlaw5_Great.j3 k (i : Int) true x.k x.s x.f x.l x.e) (fun k => ?_) (Ev.step (fun k => ?_) hb), hq⟩
      · simp only [caravanlaw5_Great.l1]; rw [if_pos (by omega), show decide ((i : Int) < 60) = true by simp; omega]
      · simp only [caravanlaw5_Great.j3]; rw [if_pos trivial, if_pos (by omega), if_pos (by omega), if_neg h1, w64 (by omega) (by omega)]; rfl
theorem greatF (x : It) (hf : x.f.length ≤ 100000000000000) (hm : x.l.length ≤ 100000000000000) : ∀ i, i ≤ min x.f.length 60 → ∃ b, Ev (fun k => caravanlaw5_Great.l0 k (i : Int) x.k x.s x.f x.l x.e) b ∧ (b = false → x.f.length ≤ 50 ∧ x.l.length ≤ 50) := by
  refine up ?_ ?_
  · obtain ⟨b, hb, hq⟩ := greatL x hm 0 (by omega)
    refine ⟨b, Ev.step (f := fun k => caravanlaw5_Great.j1 k ((min x.f.length 60 : Nat) : Int) false x.k x.s x.f x.l x.e) (fun k => ?_) (Ev.step (fun k => ?_) hb), hq⟩
    · simp only [caravanlaw5_Great.l0]
      by_cases hlt : ((min x.f.length 60 : Nat) : Int) < (x.f.length : Int)
      · rw [if_pos hlt, show decide (((min x.f.length 60 : Nat) : Int) < 60) = false by simp; omega]
      · rw [if_neg hlt]
    · simp only [caravanlaw5_Great.j1]; rw [if_neg (by simp)]; rfl
  · rintro i hi ⟨b, hb, hq⟩
    by_cases h1 : ((rd_T29 x.f (i : Int)).f0.size : Int) > 400
    · refine ⟨true, Ev.step (f := fun k => caravanlaw5_Great.j1 k (i : Int) true x.k x.s x.f x.l x.e) (fun k => ?_) (Ev.step (f := fun _ => some true) (fun k => ?_) (Ev.now true)), fun h => by cases h⟩
      · simp only [caravanlaw5_Great.l0]; rw [if_pos (by omega), show decide ((i : Int) < 60) = true by simp; omega]
      · simp only [caravanlaw5_Great.j1]; rw [if_pos trivial, if_pos (by omega), if_pos (by omega), if_pos h1]
    · by_cases h2 : ((rd_T29 x.f (i : Int)).f1.size : Int) > 400
      · refine ⟨true, Ev.step (f := fun k => caravanlaw5_Great.j1 k (i : Int) true x.k x.s x.f x.l x.e) (fun k => ?_) (Ev.step (f := fun _ => some true) (fun k => ?_) (Ev.now true)), fun h => by cases h⟩
        · simp only [caravanlaw5_Great.l0]; rw [if_pos (by omega), show decide ((i : Int) < 60) = true by simp; omega]
        · simp only [caravanlaw5_Great.j1]; rw [if_pos trivial, if_pos (by omega), if_pos (by omega), if_neg h1, if_pos h2]
      · refine ⟨b, Ev.step (f := fun k => caravanlaw5_Great.j1 k (i : Int) true x.k x.s x.f x.l x.e) (fun k => ?_) (Ev.step (fun k => ?_) hb), hq⟩
        · simp only [caravanlaw5_Great.l0]; rw [if_pos (by omega), show decide ((i : Int) < 60) = true by simp; omega]
        · simp only [caravanlaw5_Great.j1]; rw [if_pos trivial, if_pos (by omega), if_pos (by omega), if_neg h1, if_neg h2, w64 (by omega) (by omega)]; rfl
theorem great_ev (x : It) (hf : x.f.length ≤ 100000000000000) (hm : x.l.length ≤ 100000000000000) : ∃ b, Ev (fun k => caravanlaw5_Great.f k x.k x.s x.f x.l x.e) b ∧ (b = false → x.f.length ≤ 50 ∧ x.l.length ≤ 50) := by
  obtain ⟨b, hb, hq⟩ := greatF x hf hm 0 (by omega)
  exact ⟨b, Ev.fn (fun k => rfl) hb, hq⟩

theorem all_j0 (a b : It) (now : Int) (g : Bool) (h : g = false → (a.f.length ≤ 50 ∧ a.l.length ≤ 50)) :
    Ev (fun k => caravanlaw5_ItemAll.j0 k now g a.k a.s a.f a.l a.e b.k b.s b.f b.l b.e) true := by
  cases g with
  | true =>
    obtain ⟨K, hK⟩ := awake_ev
    refine ⟨K + 1, fun k hk => ?_⟩
    obtain ⟨k, rfl⟩ : ∃ m, k = m + 1 := ⟨k - 1, by omega⟩
    simp only [caravanlaw5_ItemAll.j0]
    rw [if_pos trivial, hK k (by omega)]; rfl
  | false =>
    obtain ⟨h1, h2⟩ := h rfl
    obtain ⟨K, hK⟩ := awake_ev
    obtain ⟨K1, q1⟩ := doc_may a (by omega) (by omega)
    obtain ⟨K2, q2⟩ := same_ev a b (by omega) (by omega)
    obtain ⟨K3, q3⟩ := docsame_ev a b (by omega) (by omega)
    obtain ⟨K4, q4⟩ := docsame_ev a a (by omega) (by omega)
    refine ⟨K + K1 + K2 + K3 + K4 + 1, fun k hk => ?_⟩
    obtain ⟨k, rfl⟩ : ∃ m, k = m + 1 := ⟨k - 1, by omega⟩
    have r0 := hK k (by omega)
    have r1 := q1 k (by omega)
    have r2 := q2 k (by omega)
    have r3 := q3 k (by omega)
    have r4 := q4 k (by omega)
    have sm : sameB a a = true := (sameB_iff a a).2 rfl
    have m0 : item_May.f a.k a.s a.f a.l a.e = some (mayB a.k a.s a.f a.l a.e) := by unfold item_May.f; rw [if_pos ⟨by omega, by omega⟩]
    have al : caravanref5_Alive.f a.k a.s a.f a.l a.e now = item_Alive.f a.k a.s a.f a.l a.e now := rfl
    have ty : caravanref5_Type.f a.k a.s a.f a.l a.e = item_Type.f a.k a.s a.f a.l a.e := rfl
    obtain ⟨bal, hal⟩ : ∃ y, item_Alive.f a.k a.s a.f a.l a.e now = some y := by unfold item_Alive.f; split <;> exact ⟨_, rfl⟩
    obtain ⟨t, ht⟩ : ∃ y, item_Type.f a.k a.s a.f a.l a.e = some y := by unfold item_Type.f; (repeat' split) <;> exact ⟨_, rfl⟩
    dsimp only at r0 r1 r2 r3 r4
    simp only [caravanlaw5_ItemAll.j0]
    rw [if_neg (by simp), m0, r1, al, ty, hal, ht, r2, r3, copy_eq a (by omega) (by omega)]
    simp only [Option.bind_some, r4, sm, r0]
    simp

theorem itemAll (a b : It) (now : Int) (h1 : a.f.length ≤ 100000000000000) (h2 : a.l.length ≤ 100000000000000) (h3 : b.f.length ≤ 100000000000000) (h4 : b.l.length ≤ 100000000000000) :
    ∃ k, caravanlaw5_ItemAll.f k a.k a.s a.f a.l a.e b.k b.s b.f b.l b.e now = some true := by
  refine Ev.rounds (g := fun k => caravanlaw5_ItemAll.f k a.k a.s a.f a.l a.e b.k b.s b.f b.l b.e now) ?_
  obtain ⟨g1, hg1, q1⟩ := great_ev a h1 h2
  obtain ⟨g2, hg2, q2⟩ := great_ev b h3 h4
  unfold caravanlaw5_ItemAll.f
  refine Ev.seq hg1 ?_
  cases g1 with
  | true => exact Ev.fn (fun k => by rw [if_pos rfl]) (all_j0 a b now true (fun h => by cases h))
  | false => exact Ev.fn (fun k => by rw [if_neg (by simp)]) (Ev.seq hg2 (all_j0 a b now g2 (fun _ => q1 rfl)))
end Go.Proofs.Ytbmimcpllpgcaaa.Pure
