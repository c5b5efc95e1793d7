/- The program's file and the document's, side by side, over one state. Conditions: the bounds that each contract names. -/
import Derived.Test.YthllhpjjoifnmaaHb
namespace Go.Proofs.Ythllhpjjoifnmaa
open Go.RowKit Go.Cav

/-- how many changes are left till the fall, as the document counts -/
def left (s : St) : Int := if s.count < s.crash then s.crash - s.count else 0
/-- the document's file of that state -/
def refc (s : St) : Array Value := rc ⟨s.safe.toArray⟩ ⟨s.loose.toArray⟩ s.room (left s) s.down

def addS (s : St) (bs : List UInt8) : Int × St :=
  if s.down = true then (8, s) else if s.room < ((s.safe.length + s.loose.length + bs.length : Nat) : Int) then (7, s) else
    if (s.count + 1 == s.crash) = true then (8, { s with count := s.count + 1, down := true }) else (0, { s with count := s.count + 1, loose := s.loose ++ bs })
def syncS (s : St) : Int × St :=
  if s.down = true then (8, s) else if (s.count + 1 == s.crash) = true then (8, { s with count := s.count + 1, down := true }) else (0, { s with count := s.count + 1, safe := s.safe ++ s.loose, loose := [], down := false })
def swapS (s : St) (bs : List UInt8) : Int × St :=
  if s.down = true then (8, s) else if s.room < (bs.length : Int) then (7, s) else
    if (s.count + 1 == s.crash) = true then (8, { s with count := s.count + 1, down := true }) else (0, { s with count := s.count + 1, safe := bs, loose := [], down := false })
def tearS (s : St) (n : Int) : St := { s with crash := n, count := 0 }
def fallS (s : St) (r c k : Int) : St := ⟨s.safe ++ s.loose.take (kept s.loose.length k), [], r, c, k, 0, false⟩

/-- what is known of the state between two acts -/
structure Bd (N : Nat) (s : St) : Prop where
  len : s.safe.length + s.loose.length ≤ N
  c0 : 0 ≤ s.count
  c1 : s.count ≤ (N : Int)
  cr : s.crash ≤ 9223372036854775807
  small : N ≤ 1000000

theorem ba_size (l : List UInt8) : (ByteArray.mk l.toArray).size = l.length := by simp [ByteArray.size]
theorem ba_append (a b : List UInt8) : (ByteArray.mk a.toArray) ++ (ByteArray.mk b.toArray) = ByteArray.mk (a ++ b).toArray := by
  apply ByteArray.ext; simp [ByteArray.data_append]

theorem left_range {N : Nat} {s : St} (h : Bd N s) : 0 ≤ left s ∧ left s ≤ 9223372036854775807 := by
  have := h.cr; have := h.c0
  unfold left; split <;> omega
theorem left_one {N : Nat} {s : St} (_ : Bd N s) : (s.count + 1 == s.crash) = true ↔ left s = 1 := by
  rw [beq_iff_eq]
  unfold left; split <;> omega
theorem left_next {N : Nat} {s : St} (_ : Bd N s) (S L : List UInt8) (d : Bool) : dec (left s) = left { s with count := s.count + 1, safe := S, loose := L, down := d } := by
  unfold dec left; simp only; split <;> split <;> omega

theorem step_same {B g : Nat} {S : Nat → Prop} {w w' : World} {sv lv : Value} {s : St} (hF : FileAt B w g S sv lv s) (ht : Stir (fun _ => False) w w') : Step B S g w s w' :=
  ⟨S, sv, lv, hF.touch ht (fun _ _ e => e), fun _ e => .inl e, fun _ e => e, ht.mono (fun _ _ e => e.elim)⟩

/-! ### The program's -/
theorem go_add {N : Nat} (B g : Nat) (S : Nat → Prop) (sv lv : Value) (s : St) (w : World) (hF : FileAt B w g S sv lv s) (hN : Bd N s) (bv : Value) (bs : List UInt8) (hb : ∀ W, Stir S w W → Reads W 1 bv bs.length (bs.map B8)) (hl : bs.length ≤ 1000000) :
    Calls Try.prog 10 #[.pointer (some ⟨g, 0, none⟩), bv] w fun e w' => e = .returned (.int .i64 (addS s bs).1) ∧ Step B S g w (addS s bs).2 w' := by
  obtain ⟨a, c, rfl⟩ := reads_slice (hb w (Stir.refl _ _))
  obtain ⟨h1, h2, h3, h4, h5⟩ := hN
  unfold addS
  by_cases hd : s.down = true
  · rw [if_pos hd]
    exact (add_down B g S sv lv s w hF hd (by omega) a _ c).mono fun e w' ⟨x, y⟩ => ⟨x, step_same hF y⟩
  · rw [if_neg hd]
    have hd' : s.down = false := by simpa using hd
    by_cases hr : s.room < ((s.safe.length + s.loose.length + bs.length : Nat) : Int)
    · rw [if_pos hr]
      exact (add_full B g S sv lv s w hF hd' a _ c (by omega) hr).mono fun e w' ⟨x, y⟩ => ⟨x, step_same hF y⟩
    · rw [if_neg hr]
      by_cases hc : (s.count + 1 == s.crash) = true
      · rw [if_pos hc]
        exact add_last B g S sv lv s w hF hd' a _ c (by omega) (by omega) h2 (by omega) hc
      · rw [if_neg hc]
        exact add_up B g S sv lv s w hF hd' _ bs hb (by omega) (by omega) h2 (by omega) (by simpa using hc)

theorem go_sync {N : Nat} (B g : Nat) (S : Nat → Prop) (sv lv : Value) (s : St) (w : World) (hF : FileAt B w g S sv lv s) (hN : Bd N s) :
    Calls Try.prog 11 #[.pointer (some ⟨g, 0, none⟩)] w fun e w' => e = .returned (.int .i64 (syncS s).1) ∧ Step B S g w (syncS s).2 w' := by
  obtain ⟨h1, h2, h3, h4, h5⟩ := hN
  unfold syncS
  by_cases hd : s.down = true
  · rw [if_pos hd]
    have h6 := hF.cells.2.2.2.2.2.2
    rw [hd] at h6
    exact (sync_down g w h6).mono fun e w' ⟨x, y⟩ => ⟨x, by subst y; exact step_same hF (Stir.refl _ _)⟩
  · rw [if_neg hd]
    have hd' : s.down = false := by simpa using hd
    by_cases hc : (s.count + 1 == s.crash) = true
    · rw [if_pos hc]
      exact sync_last B g S sv lv s w hF hd' h2 (by omega) hc
    · rw [if_neg hc]
      exact sync_up B g S sv lv s w hF hd' (by omega) h2 (by omega) (by simpa using hc)

theorem go_swap {N : Nat} (B g : Nat) (S : Nat → Prop) (sv lv : Value) (s : St) (w : World) (hF : FileAt B w g S sv lv s) (hN : Bd N s) (bv : Value) (bs : List UInt8) (hb : ∀ W, Stir S w W → Reads W 1 bv bs.length (bs.map B8)) (hl : bs.length ≤ 1000000) :
    Calls Try.prog 16 #[.pointer (some ⟨g, 0, none⟩), bv] w fun e w' => e = .returned (.int .i64 (swapS s bs).1) ∧ Step B S g w (swapS s bs).2 w' := by
  obtain ⟨a, c, rfl⟩ := reads_slice (hb w (Stir.refl _ _))
  obtain ⟨h1, h2, h3, h4, h5⟩ := hN
  unfold swapS
  obtain ⟨_, _, k2, _, _, _, k6⟩ := hF.cells
  by_cases hd : s.down = true
  · rw [if_pos hd]
    rw [hd] at k6
    exact (swap_down g w k6 a _ c).mono fun e w' ⟨x, y⟩ => ⟨x, by subst y; exact step_same hF (Stir.refl _ _)⟩
  · rw [if_neg hd]
    have hd' : s.down = false := by simpa using hd
    by_cases hr : s.room < (bs.length : Int)
    · rw [if_pos hr]
      rw [hd'] at k6
      exact (swap_full g s.room w k2 k6 a _ c hr).mono fun e w' ⟨x, y⟩ => ⟨x, by subst y; exact step_same hF (Stir.refl _ _)⟩
    · rw [if_neg hr]
      by_cases hc : (s.count + 1 == s.crash) = true
      · rw [if_pos hc]
        exact swap_last B g S sv lv s w hF hd' a _ c (by omega) h2 (by omega) hc
      · rw [if_neg hc]
        exact swap_up B g S sv lv s w hF hd' _ bs hb (by omega) (by omega) h2 (by omega) (by simpa using hc)

/-! ### The document's -/
theorem doc_add {N : Nat} (h : Nat) (s : St) (w : World) (k : RAt w h (refc s)) (hN : Bd N s) (bs : List UInt8) (hl : bs.length ≤ 1000000) :
    Calls Try.prog 18 #[.pointer (some ⟨h, 0, none⟩), .string ⟨bs.toArray⟩] w fun e w' => e = .returned (.int .i64 (addS s bs).1) ∧ RStep h w (refc (addS s bs).2) w' := by
  obtain ⟨l0, l1⟩ := left_range hN
  have lo := left_one hN
  have ln := fun S L d => left_next hN S L d
  obtain ⟨h1, h2, h3, h4, h5⟩ := hN
  unfold addS
  unfold refc at k ⊢
  by_cases hd : s.down = true
  · rw [if_pos hd]
    simp only
    rw [hd] at k ⊢
    exact raw_add_down h w _ _ _ _ _ k
  · rw [if_neg hd]
    have hd' : s.down = false := by simpa using hd
    rw [hd'] at k
    by_cases hr : s.room < ((s.safe.length + s.loose.length + bs.length : Nat) : Int)
    · rw [if_pos hr]
      simp only
      rw [hd']
      exact raw_add_full h w _ _ _ _ _ k (by simp only [ba_size]; omega) (by simp only [ba_size]; omega)
    · rw [if_neg hr]
      by_cases hc : (s.count + 1 == s.crash) = true
      · rw [if_pos hc]
        have e1 := lo.1 hc
        have e2 : left { s with count := s.count + 1, down := true } = 0 := by have := ln s.safe s.loose true; rw [e1] at this; exact this.symm
        simp only at e2 ⊢
        rw [e2]
        rw [e1] at k
        exact raw_add_last h w _ _ _ _ k (by simp only [ba_size]; omega) (by simp only [ba_size]; omega)
      · rw [if_neg hc]
        have e1 : left s ≠ 1 := fun e => hc (lo.2 e)
        have e2 := ln s.safe (s.loose ++ bs) s.down
        have := raw_add_up h w _ _ ⟨bs.toArray⟩ _ _ k (by simp only [ba_size]; omega) (by simp only [ba_size]; omega) l0 l1 e1
        rw [ba_append, e2] at this
        simp only
        rw [hd'] at this ⊢
        exact this

theorem doc_sync {N : Nat} (h : Nat) (s : St) (w : World) (k : RAt w h (refc s)) (hN : Bd N s) :
    Calls Try.prog 19 #[.pointer (some ⟨h, 0, none⟩)] w fun e w' => e = .returned (.int .i64 (syncS s).1) ∧ RStep h w (refc (syncS s).2) w' := by
  obtain ⟨l0, l1⟩ := left_range hN
  have lo := left_one hN
  have ln := fun S L d => left_next hN S L d
  obtain ⟨h1, h2, h3, h4, h5⟩ := hN
  unfold syncS
  unfold refc at k ⊢
  by_cases hd : s.down = true
  · rw [if_pos hd]
    simp only
    rw [hd] at k ⊢
    exact raw_sync_down h w _ _ _ _ k
  · rw [if_neg hd]
    have hd' : s.down = false := by simpa using hd
    rw [hd'] at k
    by_cases hc : (s.count + 1 == s.crash) = true
    · rw [if_pos hc]
      have e1 := lo.1 hc
      have e2 : left { s with count := s.count + 1, down := true } = 0 := by have := ln s.safe s.loose true; rw [e1] at this; exact this.symm
      simp only at e2 ⊢
      rw [e2]
      rw [e1] at k
      exact raw_sync_last h w _ _ _ k
    · rw [if_neg hc]
      have e1 : left s ≠ 1 := fun e => hc (lo.2 e)
      have e2 := ln (s.safe ++ s.loose) [] false
      have := raw_sync_up h w _ _ _ _ k (by simp only [ba_size]; omega) l0 l1 e1
      rw [ba_append, e2] at this
      exact this

theorem doc_swap {N : Nat} (h : Nat) (s : St) (w : World) (k : RAt w h (refc s)) (hN : Bd N s) (bs : List UInt8) :
    Calls Try.prog 20 #[.pointer (some ⟨h, 0, none⟩), .string ⟨bs.toArray⟩] w fun e w' => e = .returned (.int .i64 (swapS s bs).1) ∧ RStep h w (refc (swapS s bs).2) w' := by
  obtain ⟨l0, l1⟩ := left_range hN
  have lo := left_one hN
  have ln := fun S L d => left_next hN S L d
  obtain ⟨h1, h2, h3, h4, h5⟩ := hN
  unfold swapS
  unfold refc at k ⊢
  by_cases hd : s.down = true
  · rw [if_pos hd]
    simp only
    rw [hd] at k ⊢
    exact raw_swap_down h w _ _ _ _ _ k
  · rw [if_neg hd]
    have hd' : s.down = false := by simpa using hd
    rw [hd'] at k
    by_cases hr : s.room < (bs.length : Int)
    · rw [if_pos hr]
      simp only
      rw [hd']
      exact raw_swap_full h w _ _ _ _ _ k (by simp only [ba_size]; omega)
    · rw [if_neg hr]
      by_cases hc : (s.count + 1 == s.crash) = true
      · rw [if_pos hc]
        have e1 := lo.1 hc
        have e2 : left { s with count := s.count + 1, down := true } = 0 := by have := ln s.safe s.loose true; rw [e1] at this; exact this.symm
        simp only at e2 ⊢
        rw [e2]
        rw [e1] at k
        exact raw_swap_last h w _ _ _ _ k (by simp only [ba_size]; omega)
      · rw [if_neg hc]
        have e1 : left s ≠ 1 := fun e => hc (lo.2 e)
        have e2 := ln bs [] false
        have := raw_swap_up h w _ _ ⟨bs.toArray⟩ _ _ k (by simp only [ba_size]; omega) l0 l1 e1
        rw [e2] at this
        exact this

theorem doc_tear (h : Nat) (s : St) (w : World) (k : RAt w h (refc s)) (n : Int) :
    Calls Try.prog 22 #[.pointer (some ⟨h, 0, none⟩), .int .i64 n] w fun e w' => e = .returned (.tuple #[]) ∧ RStep h w (refc (tearS s n)) w' := by
  have := raw_tear h w _ _ _ _ _ n k
  unfold tearS refc left
  simpa using this

theorem doc_fall {N : Nat} (h : Nat) (s : St) (w : World) (k : RAt w h (refc s)) (hN : Bd N s) (r c q : Int) :
    Calls Try.prog 23 #[.pointer (some ⟨h, 0, none⟩), .agg #[.int .i64 r, .int .i64 c, .int .i64 q]] w fun e w' => e = .returned (.tuple #[]) ∧ RStep h w (refc (fallS s r c q)) w' := by
  obtain ⟨h1, h2, h3, h4, h5⟩ := hN
  have hk := kept_le s.loose.length q
  have hE : (ByteArray.mk s.loose.toArray).extract 0 (kept s.loose.length q) = ⟨(s.loose.take (kept s.loose.length q)).toArray⟩ := by
    apply ByteArray.ext
    rw [ByteArray.data_extract]
    simp
  have hw3 : (if 0 < q then q else 0).tmod (((ByteArray.mk s.loose.toArray).size : Int) + 1) = ((kept s.loose.length q : Nat) : Int) := by
    rw [ba_size]
    unfold kept
    by_cases hp : 0 < q
    · rw [if_pos hp, if_neg (by omega), Int.tmod_eq_emod_of_nonneg (by omega)]
      have := Int.emod_nonneg q (show (s.loose.length : Int) + 1 ≠ 0 by omega)
      omega
    · rw [if_neg hp, if_pos (by omega)]; simp
  have := raw_fall h w _ _ _ _ _ _ r c q _ k (by rw [hE.symm]; simp only [ba_size, ByteArray.size_extract]; omega) (by simp only [ba_size]; omega) hw3 (by simp only [ba_size]; omega) hE
  rw [ba_append] at this
  unfold fallS refc left
  simpa using this

end Go.Proofs.Ythllhpjjoifnmaa
