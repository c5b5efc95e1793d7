/- route.sent, and what route.Read answers of three pieces. Condition: the texts' lengths below 10^6. -/
import Derived.Test.YtijploopgmbhfaaDoorWd
namespace Go.Proofs.YtijploopgmbhfaaDoor
open Go.RowKit Go.Cav
set_option maxRecDepth 100000 in
set_option maxHeartbeats 2000000 in
theorem sent_any (f : ByteArray) (a b : Int) (hf : f.size ≤ 1000000) (a0 : -9223372036854775808 ≤ a) (a1 : a ≤ 9223372036854775807) (b0 : -9223372036854775808 ≤ b) (b1 : b ≤ 9223372036854775807) (w : World) (hW : Wd w) :
    Calls Tryd.prog 28 #[.string f, .int .i64 a, .int .i64 b] w fun e w' => e = .returned (.string (f ++ ⟨#[32]⟩ ++ itoaB a ++ ⟨#[32]⟩ ++ itoaB b)) ∧ Below w.heap.size w w' := by
  have hA := itoa_any a a0 a1 w hW
  have hB : ∀ w1, Below w.heap.size w w1 → Calls Tryd.prog 51 #[.int .i64 b] w1 fun e w' => e = .returned (.string (itoaB b)) ∧ Below w.heap.size w w' := fun w1 hb =>
    (itoa_any b b0 b1 w1 (hW.of hb)).mono fun e w' ⟨h1, h2⟩ => ⟨h1, hb.trans (h2.mono hb.size)⟩
  have za := itoaB_size a a0 a1
  have zb := itoaB_size b b0 b1
  have z1 : (⟨#[32]⟩ : ByteArray).size = 1 := rfl
  have s1 : (f ++ (⟨#[32]⟩ : ByteArray)).size = f.size + 1 := by rw [ByteArray.size_append, z1]
  have s2 : (f ++ (⟨#[32]⟩ : ByteArray) ++ itoaB a).size = f.size + 1 + (itoaB a).size := by rw [ByteArray.size_append, s1]
  have s3 : (f ++ (⟨#[32]⟩ : ByteArray) ++ itoaB a ++ (⟨#[32]⟩ : ByteArray)).size = f.size + 1 + (itoaB a).size + 1 := by rw [ByteArray.size_append, s2, z1]
  generalize itoaB a = ia at hA za s2 s3
  generalize itoaB b = ib at hB zb
  have k1 : f.size + 1 ≤ 9223372036854775807 := by omega
  have k2 : f.size + 1 + ia.size ≤ 9223372036854775807 := by omega
  have k3 : f.size + 1 + ia.size + 1 ≤ 9223372036854775807 := by omega
  have k4 : f.size + 1 + ia.size + 1 + ib.size ≤ 9223372036854775807 := by omega
  go_enter Tryd.func28, Tryd.ntmps28
  go_wp2_with (first | (go_at_call 51; refine hA.mono ?_; rintro e w1 ⟨rfl, hb⟩; clear hA) | (go_at_call 51; refine (hB _ hb).mono ?_; rintro e w2 ⟨rfl, hb2⟩))
  go_ret
  exact ⟨rfl, hb2⟩
/-- what route.Read answers of three pieces -/
def readV (s f0 f1 f2 : ByteArray) : ByteArray × Int × Int :=
  if (f0 = ⟨#[77, 79, 86, 69, 68]⟩ ∨ f0 = ⟨#[65, 83, 75]⟩) ∧ 0 ≤ atoiV f1 ∧ atoiV f1 < 16384 ∧ 0 ≤ atoiV f2 ∧ atoiV f2 < 8 ∧ f0 ++ ⟨#[32]⟩ ++ itoaB (atoiV f1) ++ ⟨#[32]⟩ ++ itoaB (atoiV f2) = s then (f0, atoiV f1, atoiV f2) else (⟨#[]⟩, 0, 0)
/-- the pieces of a text at blanks -/
def pieces (s : ByteArray) : List ByteArray := Lib.splitB ⟨#[32]⟩ 0 (Lib.countB s ⟨#[32]⟩) s
theorem pieces_data (s : ByteArray) : (pieces s).map (·.data.toList) = cutAt 32 s.data.toList := by
  unfold pieces
  rw [Lib.splitB_data, ← split_cut]
  rfl
theorem pieces_length (s : ByteArray) : (pieces s).length = Lib.countB s ⟨#[32]⟩ + 1 := Lib.splitB_all _ (by decide) 0 _ s rfl
end Go.Proofs.YtijploopgmbhfaaDoor
