/- The example of layer 14's statements answers true. Condition: strconv's variables are as they are laid. -/
import Derived.Test.YtijploopgmbhfaaDoorRmD
import Derived.Test.YtijploopgmbhfaaDoorRd
namespace Go.Proofs.YtijploopgmbhfaaDoor.G
open Go.RowKit Go.Cav Go.Proofs.YtijploopgmbhfaaDoorW.PrintWords Go.Proofs.YtijploopgmbhfaaDoorW.PrintLast Go.Proofs.YtijploopgmbhfaaDoorW.PrintMore
attribute [local go_sem] Oper.semAt_some
theorem read_ex : readP ⟨#[77, 79, 86, 69, 68, 32, 53, 32, 50]⟩ = (⟨#[77, 79, 86, 69, 68]⟩, 5, 2) := by decide +kernel
theorem dec_ex1 (a b : Int) (x : Bool) : decideP a b [] [] [] [] x = ⟨#[]⟩ := by unfold decideP; rw [if_pos rfl]
theorem dec_ex2 : decideP 0 (-1) [] [] [] [⟨#[97]⟩] false = ⟨#[67, 76, 85, 83, 84, 69, 82, 68, 79, 87, 78]⟩ := by
  unfold decideP
  have h : (oneP [⟨#[97]⟩]).2 = true := by unfold oneP; simp
  rw [if_neg (by simp), if_neg (by rw [h]; simp), if_pos (show (ofP [] _).2.2 = false from rfl)]
set_option maxRecDepth 100000 in
set_option maxHeartbeats 8000000 in
theorem awake_any (w : World) (hW : Wd w) : Calls Tryd.prog 11 #[] w fun e w' => e = .returned (.bool true) ∧ Below w.heap.size w w' := by
  have hR := read_any ⟨#[77, 79, 86, 69, 68, 32, 53, 32, 50]⟩ (by decide) w hW
  rw [read_ex] at hR
  have n5 : ∀ w, Kd.C k64 w none ([] : List S64).length [] := fun w => Kd.C_nil _ w
  have n6 : ∀ w, Kd.C k70 w none ([] : List S70).length [] := fun w => Kd.C_nil _ w
  have n7 : ∀ w, Kd.C k61 w none ([] : List S61).length [] := fun w => Kd.C_nil _ w
  have n1 : ∀ w, Kd.C Kd.string w none ([] : List ByteArray).length [] := fun w => Kd.C_nil _ w
  have hD1 : ∀ w1, Below w.heap.size w w1 → Calls Tryd.prog 12 #[.agg #[.int .i64 0, .int .i64 0, .int .i64 0, .int .i64 0, .int .i64 0, .slice none 0 0, .slice none 0 0, .slice none 0 0, .int .i64 0, .slice none 0 0, .int .i64 0, .int .i64 0, .int .i64 0, .slice none 0 0, .int .i64 0, .int .i64 0, .int .i64 0, .slice none 0 0, .slice none 0 0, .int .i64 0, .slice none 0 0, .int .i64 0], .slice none 0 0, .bool false] w1 fun e w' => e = .returned (.string ⟨#[]⟩) ∧ Below w1.heap.size w1 w' := fun w1 h => by
    have k := decide_calls (.int .i64 0) 0 0 (.int .i64 0) (.int .i64 0) none 0 [] none 0 [] none 0 [] (.int .i64 0) (.slice none 0 0) (.int .i64 0) (.int .i64 0) (.int .i64 0) (.slice none 0 0) (.int .i64 0) (.int .i64 0) (.int .i64 0) (.slice none 0 0) (.slice none 0 0) (.int .i64 0) (.slice none 0 0) (.int .i64 0) none 0 [] false w1 (n5 w1) (by simp) (n6 w1) (n7 w1) (n1 w1) (by simp) (by simp) (by simp) (by simp) (by simp) (hW.of h) (by simp) (by simp)
    rw [dec_ex1] at k
    exact k
  have hD2 : ∀ (ad : Addr) (c : Nat) w1, Below w.heap.size w w1 → w1.cell? (ad.add 0) = some (.string ⟨#[97]⟩) → Calls Tryd.prog 12 #[.agg #[.int .i64 0, .int .i64 0, .int .i64 (-1), .int .i64 0, .int .i64 0, .slice none 0 0, .slice none 0 0, .slice none 0 0, .int .i64 0, .slice none 0 0, .int .i64 0, .int .i64 0, .int .i64 0, .slice none 0 0, .int .i64 0, .int .i64 0, .int .i64 0, .slice none 0 0, .slice none 0 0, .int .i64 0, .slice none 0 0, .int .i64 0], .slice (some ad) 1 c, .bool false] w1 fun e w' => e = .returned (.string ⟨#[67, 76, 85, 83, 84, 69, 82, 68, 79, 87, 78]⟩) ∧ Below w1.heap.size w1 w' := fun ad c w1 h hc => by
    have hk : Kd.C Kd.string w1 (some ad) ([⟨#[97]⟩] : List ByteArray).length [⟨#[97]⟩] := by
      refine ⟨rfl, by simp, fun _ => ⟨ad, rfl, fun j p hj => ?_⟩⟩
      cases j with
      | zero =>
        cases hj
        refine ⟨[.string ⟨#[97]⟩], rfl, rfl, fun i u hu => ?_⟩
        cases i with
        | zero => cases hu; rw [Nat.zero_mul, Nat.zero_add]; exact hc
        | succ i => cases hu
      | succ j => cases hj
    have k := decide_calls (.int .i64 0) 0 (-1) (.int .i64 0) (.int .i64 0) none 0 [] none 0 [] none 0 [] (.int .i64 0) (.slice none 0 0) (.int .i64 0) (.int .i64 0) (.int .i64 0) (.slice none 0 0) (.int .i64 0) (.int .i64 0) (.int .i64 0) (.slice none 0 0) (.slice none 0 0) (.int .i64 0) (.slice none 0 0) (.int .i64 0) (some ad) c [⟨#[97]⟩] false w1 (n5 w1) (by simp) (n6 w1) (n7 w1) hk (by simp) (by simp) (by simp) (by simp) (by intro s hs; rw [List.mem_singleton.1 hs]; decide) (hW.of h) (by simp) (by simp)
    rw [dec_ex2] at k
    exact k
  have HD1 := Lib.hid hD1
  have HD2 := Lib.hid hD2
  clear hD1 hD2 n5 n6 n7 n1 hW
  go_enter Tryd.func11, Tryd.ntmps11
  go_wp2_with fail
  refine hR.mono ?_
  rintro e w1 ⟨rfl, hb⟩
  have HB := Lib.hid hb
  clear hb hR
  go_wp2_with fail
  refine (HD1.out _ HB.out).mono ?_
  rintro e w2 ⟨rfl, hb⟩
  have HB2 := Lib.hid (HB.out.trans (hb.mono HB.out.size))
  clear hb HB HD1
  go_wp2_with fail
  have hbx : Below w.heap.size w (w2.alloc (.cells #[.string ⟨#[97]⟩] 9)) := HB2.out.alloc HB2.out.size _
  have hnew : (w2.alloc (.cells #[.string ⟨#[97]⟩] 9)).cell? ((⟨w2.heap.size, 0, none⟩ : Addr).add 0) = some (.string ⟨#[97]⟩) := by
    rw [show (⟨w2.heap.size, 0, none⟩ : Addr).add 0 = ⟨w2.heap.size, 0, none⟩ by simp [Addr.add]]
    exact (cell_of_row _ _ 0 _ _ _ (heap_alloc_new w2 _)).trans rfl
  refine (HD2.out ⟨w2.heap.size, 0, none⟩ 1 _ hbx hnew).mono ?_
  rintro e w3 ⟨rfl, hb⟩
  have HB3 := Lib.hid (hbx.trans (hb.mono hbx.size))
  clear hb HB2 HD2 hbx hnew
  go_wp2
  go_ret
  exact ⟨rfl, HB3.out⟩
end Go.Proofs.YtijploopgmbhfaaDoor.G
