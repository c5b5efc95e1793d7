/- The plain law of CmdPairs: each of the 280 cases reckoned. No conditions. -/
import Derived.Test.YtjdpmjpfhcdcfaaG9
namespace Go.Proofs.Ytjdpmjpfhcdcfaa.Pure
open Go.RowKit Go.Proofs.Ytjdpmjpfhcdcfaa.G Go.Proofs.YtjdpmjpfhcdcfaaW.PrintWords Go.Proofs.YtjdpmjpfhcdcfaaW.PrintLast

theorem pairs_ok : ∀ (j : Fin 7) (i : Fin 20) (b : Bool), caravanlaw4_CmdPairs.f 60 (i.val : Int) (j.val : Int) b = some true := by decide +kernel
theorem pairs_mod (k : Nat) (m n : Nat) (hm : m < 256) (a2 : Bool) : caravanlaw4_CmdPairs.f k (m : Int) (n : Int) a2 = caravanlaw4_CmdPairs.f k ((m % 20 : Nat) : Int) ((n % 7 : Nat) : Int) a2 := by
  have e1 : wrap64 (m : Int) = (m : Int) := by unfold wrap64; omega
  have e2 : wrap64 ((m % 20 : Nat) : Int) = ((m % 20 : Nat) : Int) := by unfold wrap64; omega
  have e3 : Int.tmod ((m % 20 : Nat) : Int) 20 = Int.tmod (m : Int) 20 := by
    rw [Int.tmod_eq_emod_of_nonneg (by omega), Int.tmod_eq_emod_of_nonneg (by omega)]; omega
  have e4 : Int.tmod ((n % 7 : Nat) : Int) 7 = Int.tmod (n : Int) 7 := by
    rw [Int.tmod_eq_emod_of_nonneg (by omega), Int.tmod_eq_emod_of_nonneg (by omega)]; omega
  unfold caravanlaw4_CmdPairs.f
  rw [e1, e2, e3, e4]
theorem CmdPairs : caravanlaw4_CmdPairs.Pure := by
  intro a0 a1 a2 h0 h1
  have b0 : 0 ≤ a0 ∧ a0 ≤ 255 := by have h := h0; simp [Lit.wf] at h; exact h
  have b1 : 0 ≤ a1 ∧ a1 ≤ 255 := by have h := h1; simp [Lit.wf] at h; exact h
  obtain ⟨m, rfl⟩ := Int.eq_ofNat_of_zero_le b0.1
  obtain ⟨n, rfl⟩ := Int.eq_ofNat_of_zero_le b1.1
  refine ⟨60, ?_⟩
  rw [pairs_mod 60 m n (by omega) a2]
  exact pairs_ok ⟨n % 7, Nat.mod_lt _ (by decide)⟩ ⟨m % 20, Nat.mod_lt _ (by decide)⟩ a2
end Go.Proofs.Ytjdpmjpfhcdcfaa.Pure
