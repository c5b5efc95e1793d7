/- spans.Count, and the document's example. Conditions: a bound on the list's length. -/
import Derived.Test.YtnlakdpfkgjdaaaDoorG2
import Derived.Test.YtnlakdpfkgjdaaaDoorGRead
import Derived.Test.YtnlakdpfkgjdaaaDoorGHas
namespace Go.Proofs.YtnlakdpfkgjdaaaDoor.G
open Go.RowKit Go.Cav Go.Proofs.YtnlakdpfkgjdaaaDoorW.PrintWords Go.Proofs.YtnlakdpfkgjdaaaDoorW.PrintLast Go.Proofs.YtnlakdpfkgjdaaaDoorW.PrintMore
theorem count_loop (l : List S31) (hl : l.length ≤ 1000000000) (hin : ∀ s ∈ l, 0 ≤ s.f0 ∧ s.f0 ≤ s.f1 ∧ s.f1 ≤ 16383) : ∀ n j k (a : Int), j + n = l.length → 0 ≤ a → a ≤ 16384 * (j : Int) → spans_Count.l0 (k + n + 1) a l (l.length : Int) (j : Int) = some (a + widS (l.drop j))
  | 0, j, k, a, hj, h0, h1 => by
    rw [spans_Count.l0, if_neg (by omega), List.drop_of_length_le (by omega)]
    exact congrArg some (by show a = a + 0; omega)
  | n + 1, j, k, a, hj, h0, h1 => by
    have hlt : j < l.length := by omega
    have hs := hin l[j] (List.getElem_mem hlt)
    have ew : wrap64 ((j : Int) + 1) = ((j + 1 : Nat) : Int) := by rw [w64 _ (by omega) (by omega)]; omega
    rw [show k + (n + 1) + 1 = (k + n + 1) + 1 by omega, spans_Count.l0, if_pos (by omega), if_pos (by omega), if_pos (by omega), rd_at l j hlt, ew, List.drop_eq_getElem_cons hlt]
    rw [w64 (l[j].f1 - l[j].f0) (by omega) (by omega), w64 (l[j].f1 - l[j].f0 + 1) (by omega) (by omega), w64 (a + (l[j].f1 - l[j].f0 + 1)) (by omega) (by omega), count_loop l hl hin n (j + 1) k _ (by omega) (by omega) (by omega)]
    exact congrArg some (by show _ = a + (l[j].f1 - l[j].f0 + 1 + widS (l.drop (j + 1))); omega)
theorem count_f (l : List S31) (hl : l.length ≤ 1000000000) (k : Nat) : spans_Count.f (k + l.length + 1) l = some (widS (normS l)) := by
  have hn := normS_len l
  unfold spans_Count.f
  rw [norm_f l hl k, Option.bind_some]
  have h := count_loop (normS l) (by omega) (mayF_in (norm_spec l).1 (by omega)) (normS l).length 0 (k + l.length - (normS l).length) 0 (by omega) (by omega) (by omega)
  rw [show k + l.length - (normS l).length + (normS l).length + 1 = k + l.length + 1 by omega] at h
  rw [show ((0 : Nat) : Int) = 0 from rfl, List.drop_zero, Int.zero_add] at h
  exact h
instance decEqSp : DecidableEq S31 := fun x y =>
  if h : x.f0 = y.f0 ∧ x.f1 = y.f1 then .isTrue (by cases x; cases y; obtain ⟨h1, h2⟩ := h; cases h1; cases h2; rfl) else .isFalse (fun e => h (by rw [e]; exact ⟨rfl, rfl⟩))
theorem awake_read : readP ⟨#[48, 45, 53, 44, 55]⟩ = ([⟨0, 5⟩, ⟨7, 7⟩], true) := by
  decide +kernel
theorem awake_ok (k : Nat) : caravanlaw2_awake.f (k + 3) = some true := by
  unfold caravanlaw2_awake.f
  have h1 : spans_Read.f (⟨#[48, 45, 53, 44, 55]⟩ : ByteArray) = some ([⟨0, 5⟩, ⟨7, 7⟩], true) := by
    unfold spans_Read.f
    rw [if_pos (by decide), awake_read]
  have h2 : spans_Text.f (k + 3) [(⟨7, 7⟩ : S31), ⟨0, 5⟩] = some (textS [(⟨7, 7⟩ : S31), ⟨0, 5⟩]) := text_f [(⟨7, 7⟩ : S31), ⟨0, 5⟩] (by decide) k
  have h3 : spans_Count.f (k + 3) [(⟨0, 5⟩ : S31), ⟨7, 7⟩] = some (widS (normS [(⟨0, 5⟩ : S31), ⟨7, 7⟩])) := count_f [(⟨0, 5⟩ : S31), ⟨7, 7⟩] (by decide) k
  have h4 : (textS [(⟨7, 7⟩ : S31), ⟨0, 5⟩]).toList = [48, 45, 53, 44, 55] := by decide +kernel
  have h5 : widS (normS [(⟨0, 5⟩ : S31), ⟨7, 7⟩]) = 7 := by decide +kernel
  rw [h1, Option.bind_some, if_pos rfl, if_pos (by decide), h2, Option.bind_some, if_pos h4, h3, Option.bind_some, h5]
  rfl
end Go.Proofs.YtnlakdpfkgjdaaaDoor.G
