/- How a text falls into pieces at a byte, and that the library's split says so. No conditions. -/
import Derived.Lib.SplitLaws
namespace Go.Cav
open Go.Lib

/-- a byte ahead of the first piece -/
def headCons (b : UInt8) : List (List UInt8) → List (List UInt8)
  | [] => [[b]]
  | p :: r => (b :: p) :: r
/-- the pieces of a text at a byte -/
def cutAt (c : UInt8) : List UInt8 → List (List UInt8)
  | [] => [[]]
  | b :: l => if b = c then [] :: cutAt c l else headCons b (cutAt c l)
theorem cutAt_ne (c : UInt8) : ∀ l, cutAt c l ≠ []
  | [] => by simp [cutAt]
  | b :: l => by
    unfold cutAt
    split
    · simp
    · cases h : cutAt c l with
      | nil => simp [headCons]
      | cons p r => simp [headCons]
theorem cutAt_free (c : UInt8) : ∀ l, c ∉ l → cutAt c l = [l]
  | [], _ => rfl
  | b :: l, h => by
    have hb : ¬ b = c := fun e => h (by rw [e]; exact List.mem_cons_self)
    rw [cutAt, if_neg hb, cutAt_free c l (fun e => h (List.mem_cons_of_mem _ e))]
    rfl
theorem cutAt_app (c : UInt8) (y : List UInt8) : ∀ x, c ∉ x → cutAt c (x ++ c :: y) = x :: cutAt c y
  | [], _ => by rw [List.nil_append, cutAt, if_pos rfl]
  | b :: x, h => by
    have hb : ¬ b = c := fun e => h (by rw [e]; exact List.mem_cons_self)
    rw [List.cons_append, cutAt, if_neg hb, cutAt_app c y x (fun e => h (List.mem_cons_of_mem _ e))]
    rfl
theorem cutAt_pieces (c : UInt8) : ∀ l, ∀ p ∈ cutAt c l, c ∉ p
  | [], p, h => by rw [cutAt, List.mem_singleton] at h; subst h; simp
  | b :: l, p, h => by
    rw [cutAt] at h
    split at h
    · rcases List.mem_cons.1 h with rfl | h'
      · simp
      · exact cutAt_pieces c l p h'
    · rename_i hb
      cases hc : cutAt c l with
      | nil => exact absurd hc (cutAt_ne c l)
      | cons q r =>
        rw [hc, headCons] at h
        rcases List.mem_cons.1 h with rfl | h'
        · intro e
          rcases List.mem_cons.1 e with e' | e'
          · exact hb e'.symm
          · exact cutAt_pieces c l q (by rw [hc]; exact List.mem_cons_self) e'
        · exact cutAt_pieces c l p (by rw [hc]; exact List.mem_cons_of_mem _ h')
theorem cutAt_len (c : UInt8) : ∀ l, ∀ p ∈ cutAt c l, p.length ≤ l.length
  | [], p, h => by rw [cutAt, List.mem_singleton] at h; subst h; simp
  | b :: l, p, h => by
    rw [cutAt] at h
    split at h
    · rcases List.mem_cons.1 h with rfl | h'
      · simp
      · have := cutAt_len c l p h'; simp; omega
    · cases hc : cutAt c l with
      | nil => exact absurd hc (cutAt_ne c l)
      | cons q r =>
        rw [hc, headCons] at h
        rcases List.mem_cons.1 h with rfl | h'
        · have := cutAt_len c l q (by rw [hc]; exact List.mem_cons_self); simp; omega
        · have := cutAt_len c l p (by rw [hc]; exact List.mem_cons_of_mem _ h'); simp; omega
/-- the pieces side by side again -/
def glue (c : UInt8) : List (List UInt8) → List UInt8
  | [] => []
  | [p] => p
  | p :: q :: r => p ++ c :: glue c (q :: r)
theorem glue_cut (c : UInt8) : ∀ l, glue c (cutAt c l) = l
  | [] => rfl
  | b :: l => by
    rw [cutAt]
    have ih := glue_cut c l
    split
    · rename_i hb
      subst hb
      cases hc : cutAt b l with
      | nil => exact absurd hc (cutAt_ne b l)
      | cons q r =>
        rw [hc] at ih
        show [] ++ b :: glue b (q :: r) = _
        rw [ih]; rfl
    · cases hc : cutAt c l with
      | nil => exact absurd hc (cutAt_ne c l)
      | cons q r =>
        rw [hc] at ih
        cases r with
        | nil =>
          show b :: q = _
          rw [← ih]; rfl
        | cons q2 r =>
          show (b :: q) ++ c :: glue c (q2 :: r) = _
          rw [← ih]; rfl
theorem index_one_ne (b c : UInt8) (l : List UInt8) (h : b ≠ c) : index (b :: l) [c] = if index l [c] == -1 then -1 else index l [c] + 1 := by
  have hp : ([c] : List UInt8).isPrefixOf (b :: l) = false := by simp [List.isPrefixOf, Ne.symm h]
  rw [index, hp]; simp
/-- the library's split at one byte -/
theorem split_cut (c : UInt8) : ∀ l, split l [c] = cutAt c l
  | [] => by
    unfold split
    rw [count_one]; rfl
  | b :: l => by
    have ih := split_cut c l
    unfold split at ih ⊢
    rw [cutAt]
    by_cases h : b = c
    · subst h
      rw [if_pos rfl, count_cons_eq, Nat.add_comm 1, splitK]
      have hix : index (b :: l) [b] = ((0 : Nat) : Int) := by rw [index]; simp [List.isPrefixOf]
      rw [hix, if_neg (by decide)]
      show (b :: l).take 0 :: splitK [b] 0 (count l [b]) ((b :: l).drop 1) = _
      rw [List.take_zero, List.drop_succ_cons, List.drop_zero, ih]
    · rw [if_neg h, count_cons_ne b c l h, ← ih]
      cases hk : count l [c] with
      | zero => rfl
      | succ k =>
        rw [splitK, splitK, index_one_ne b c l h]
        by_cases hm : index l [c] = -1
        · rw [hm, if_pos (by decide), if_pos (by decide)]; rfl
        · have hge := index_ge l [c]
          obtain ⟨j, hj⟩ : ∃ j : Nat, index l [c] = j := ⟨(index l [c]).toNat, by omega⟩
          have hj1 : ¬ ((j : Int) == -1) = true := fun e => by have := beq_iff_eq.1 e; omega
          have hj2 : ¬ ((j : Int) + 1 == -1) = true := fun e => by have := beq_iff_eq.1 e; omega
          rw [hj, if_neg hj1, if_neg hj2, if_neg hj1]
          have e1 : ((j : Int) + 1).toNat + 0 = j + 1 := by omega
          have e2 : ((j : Int) + 1).toNat + ([c] : List UInt8).length = j + 1 + 1 := by show ((j : Int) + 1).toNat + 1 = _; omega
          have e3 : (j : Int).toNat + 0 = j := by omega
          have e4 : (j : Int).toNat + ([c] : List UInt8).length = j + 1 := by simp
          rw [e1, e2, e3, e4, List.take_succ_cons, List.drop_succ_cons]
          rfl
end Go.Cav
