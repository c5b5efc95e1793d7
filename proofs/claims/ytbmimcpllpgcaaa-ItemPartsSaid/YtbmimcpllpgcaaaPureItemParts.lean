/- The plain statement of ItemParts: the law's function comes to true at each pair of bytes, for it looks at them modulo 4 and 3 alone: twelve ways, each reckoned. No condition. -/
import Derived.Test.YtbmimcpllpgcaaaPK
import Derived.Test.YtbmimcpllpgcaaaG4
namespace Go.Proofs.Ytbmimcpllpgcaaa.Pure
open Go.RowKit Go.Pk Go.Proofs.Ytbmimcpllpgcaaa.G Go.Proofs.YtbmimcpllpgcaaaW.PrintWords Go.Proofs.YtbmimcpllpgcaaaW.PrintLast

set_option maxRecDepth 100000 in
theorem ItemParts : caravanlaw5_ItemParts.Pure := by
  intro a0 a1 ha0 ha1
  have b0 := wf_u8 ha0
  have b1 := wf_u8 ha1
  refine ⟨9, ?_⟩
  have p0 : Int.tmod a0 4 = 0 ∨ Int.tmod a0 4 = 1 ∨ Int.tmod a0 4 = 2 ∨ Int.tmod a0 4 = 3 := by
    rw [Int.tmod_eq_emod_of_nonneg (by omega)]; omega
  have p1 : Int.tmod a1 3 = 0 ∨ Int.tmod a1 3 = 1 ∨ Int.tmod a1 3 = 2 := by
    rw [Int.tmod_eq_emod_of_nonneg (by omega)]; omega
  unfold caravanlaw5_ItemParts.f
  generalize Int.tmod a0 4 = i at p0 ⊢
  generalize Int.tmod a1 3 = j at p1 ⊢
  clear ha0 ha1 b0 b1
  rcases p0 with rfl | rfl | rfl | rfl <;> rcases p1 with rfl | rfl | rfl <;> decide +kernel

end Go.Proofs.Ytbmimcpllpgcaaa.Pure
