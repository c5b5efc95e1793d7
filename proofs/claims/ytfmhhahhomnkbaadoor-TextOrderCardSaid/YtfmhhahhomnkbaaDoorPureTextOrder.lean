/- The plain law of TextOrder. No conditions. -/
import Derived.Test.YtfmhhahhomnkbaaDoorPn
namespace Go.Proofs.YtfmhhahhomnkbaaDoor.Pure
open Go.RowKit Go.Pk Go.Proofs.YtfmhhahhomnkbaaDoor.G Go.Proofs.YtfmhhahhomnkbaaDoorW.PrintWords Go.Proofs.YtfmhhahhomnkbaaDoorW.PrintLast
theorem TextOrder : caravanlaw6_TextOrder.Pure := by
  intro n a b h0 h1 h2
  have b0 := wf_i32 h0
  have b1 := wf_i32 h1
  have b2 := wf_i32 h2
  refine ⟨26, ?_⟩
  unfold caravanlaw6_TextOrder.f
  rw [w64 (n := n) (by omega) (by omega), w64 (n := a) (by omega) (by omega), w64 (n := b) (by omega) (by omega), w64 (n := n + a) (by omega) (by omega), w64 (n := n + a + b) (by omega) (by omega)]
  rw [digits_eq n (by omega) (by omega) 5]
  simp only [Option.bind_some]
  rw [add_f n a (by omega) (by omega) (by omega) (by omega)]
  simp only [Option.bind_some]
  rw [add_f (n + a) b (by omega) (by omega) (by omega) (by omega), add_f n b (by omega) (by omega) (by omega) (by omega)]
  simp only [Option.bind_some]
  rw [add_f (n + b) a (by omega) (by omega) (by omega) (by omega), number_f (n + a + b) (by omega) (by omega)]
  simp only [Option.bind_some]
  rw [show n + b + a = n + a + b by omega, show (26 : Nat) = 21 + 5 from rfl, awake_eq 21]
  simp
end Go.Proofs.YtfmhhahhomnkbaaDoor.Pure
