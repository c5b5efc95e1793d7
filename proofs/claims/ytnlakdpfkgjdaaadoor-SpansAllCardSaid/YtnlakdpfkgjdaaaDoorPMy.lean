/- What May and Text come to. Conditions: bounds on the lists' lengths. -/
import Derived.Test.YtnlakdpfkgjdaaaDoorGMay
import Derived.Test.YtnlakdpfkgjdaaaDoorGText
import Derived.Test.YtnlakdpfkgjdaaaDoorPNm
import Derived.Test.YtnlakdpfkgjdaaaDoorPK
namespace Go.Proofs.YtnlakdpfkgjdaaaDoor.G
open Go.RowKit Go.Cav Go.Proofs.YtnlakdpfkgjdaaaDoorW.PrintWords Go.Proofs.YtnlakdpfkgjdaaaDoorW.PrintLast Go.Proofs.YtnlakdpfkgjdaaaDoorW.PrintMore
instance decMayF : ∀ (a : Int) (l : List S31), Decidable (mayF a l)
  | _, [] => .isTrue trivial
  | a, s :: r => by
    have := decMayF (s.f1 + 1) r
    show Decidable (a < s.f0 ∧ s.f0 ≤ s.f1 ∧ s.f1 ≤ 16383 ∧ mayF (s.f1 + 1) r)
    infer_instance
/-- may a list be? -/
def mayB (l : List S31) : Bool := decide (mayF (-1) l)
theorem may_loop (l : List S31) (hl : l.length ≤ 1000000000000) : ∀ n j k (a : Int), j + n = l.length → -2 ≤ a → a ≤ 16383 → spans_May.l0 (k + n + 1) a l (l.length : Int) (j : Int) = some (decide (mayF (a + 1) (l.drop j)))
  | 0, j, k, a, hj, h0, h1 => by
    rw [List.drop_of_length_le (by omega), spans_May.l0, if_neg (by omega)]
    exact congrArg some (decide_eq_true (p := mayF (a + 1) []) trivial).symm
  | n + 1, j, k, a, hj, h0, h1 => by
    have hlt : j < l.length := by omega
    have ew : wrap64 ((j : Int) + 1) = ((j + 1 : Nat) : Int) := by rw [w64 _ (by omega) (by omega)]; omega
    have ea : wrap64 (a + 1) = a + 1 := w64 _ (by omega) (by omega)
    have hm : mayF (a + 1) (l[j] :: l.drop (j + 1)) ↔ a + 1 < l[j].f0 ∧ l[j].f0 ≤ l[j].f1 ∧ l[j].f1 ≤ 16383 ∧ mayF (l[j].f1 + 1) (l.drop (j + 1)) := Iff.rfl
    rw [show k + (n + 1) + 1 = (k + n + 1) + 1 by omega, spans_May.l0, if_pos (by omega), if_pos (by omega), if_pos (by omega), rd_at l j hlt, ew, ea, List.drop_eq_getElem_cons hlt]
    by_cases c1 : l[j].f0 ≤ a + 1
    · rw [if_pos c1, decide_eq_false (fun h => by have := (hm.1 h).1; omega)]
    · rw [if_neg c1]
      by_cases c2 : l[j].f0 < 0
      · rw [if_pos c2, decide_eq_false (fun h => by have := (hm.1 h).1; omega)]
      · rw [if_neg c2]
        by_cases c3 : l[j].f1 < l[j].f0
        · rw [if_pos c3, decide_eq_false (fun h => by have := (hm.1 h).2.1; omega)]
        · rw [if_neg c3]
          by_cases c4 : l[j].f1 > 16383
          · rw [if_pos c4, decide_eq_false (fun h => by have := (hm.1 h).2.2.1; omega)]
          · rw [if_neg c4, may_loop l hl n (j + 1) k l[j].f1 (by omega) (by omega) (by omega)]
            congr 1
            exact decide_eq_decide.2 ⟨fun h => hm.2 ⟨by omega, by omega, by omega, h⟩, fun h => (hm.1 h).2.2.2⟩
theorem may_f (l : List S31) (hl : l.length ≤ 1000000000000) (k : Nat) : spans_May.f (k + l.length + 1) l = some (mayB l) := by
  have h := may_loop l hl l.length 0 k (-2) (by omega) (by omega) (by omega)
  rw [List.drop_zero] at h
  exact h
theorem may_any (A0 : Option Addr) (c0 : Nat) (l0 : List S31) (w : World) (hr0 : Kd.C k31 w A0 l0.length l0) (hc0 : l0.length ≤ c0) (h0 : l0.length ≤ 1000000000000) :
    Calls Tryd.prog 14 #[.slice A0 l0.length c0] w fun e w' => e = .returned (.bool (mayB l0)) ∧ Below w.heap.size w w' :=
  spans_May.calls (0 + l0.length + 1) A0 c0 l0 _ w hr0 hc0 (may_f l0 h0 0)
/-- a span's text -/
def oneS (s : S31) : ByteArray := if s.f1 > s.f0 then itoaB s.f0 ++ ((⟨#[45]⟩ : ByteArray) ++ itoaB s.f1) else itoaB s.f0
/-- a list's text -/
def textS (l : List S31) : ByteArray := joinB ((normS l).map oneS) ⟨#[44]⟩
theorem itoaB_le {n : Int} (h0 : 0 ≤ n) (h1 : n ≤ 16383) : (itoaB n).size ≤ 21 := itoaB_size n (by omega) (by omega)
theorem oneS_le (s : S31) (h0 : 0 ≤ s.f0) (h1 : s.f0 ≤ s.f1) (h2 : s.f1 ≤ 16383) : (oneS s).size ≤ 43 := by
  have a := itoaB_le h0 (by omega)
  have b := itoaB_le (n := s.f1) (by omega) h2
  unfold oneS
  split
  · rw [ByteArray.size_append, ByteArray.size_append]
    show _ + (1 + _) ≤ _; omega
  · omega
theorem join_le (sep : UInt8) (l : List (List UInt8)) (h : ∀ x ∈ l, x.length ≤ 43) : (Lib.join l [sep]).length ≤ 44 * l.length := by
  induction l with
  | nil => simp [Lib.join]
  | cons a l ih =>
    have ha := h a (by simp)
    have ih := ih (fun x hx => h x (List.mem_cons_of_mem _ hx))
    cases l with
    | nil => simp [Lib.join]; omega
    | cons b l => simp [Lib.join] at ih ⊢; omega
theorem mayF_in : ∀ {a : Int} {l : List S31}, mayF a l → -1 ≤ a → ∀ s ∈ l, 0 ≤ s.f0 ∧ s.f0 ≤ s.f1 ∧ s.f1 ≤ 16383
  | _, [], _, _, s, h => by cases h
  | a, t :: r, ⟨h1, h2, h3, h4⟩, h0, s, h => by
    rcases List.mem_cons.1 h with rfl | h
    · exact ⟨by omega, h2, h3⟩
    · exact mayF_in h4 (by omega) s h
theorem text_loop (l : List S31) (hl : l.length ≤ 1000000000) (hin : ∀ s ∈ l, 0 ≤ s.f0 ∧ s.f0 ≤ s.f1 ∧ s.f1 ≤ 16383) : ∀ n j k (out : List ByteArray), j + n = l.length → out = (l.take j).map oneS → spans_Text.l0 (k + n + 1) out l (l.length : Int) (j : Int) = some (joinB (l.map oneS) ⟨#[44]⟩)
  | 0, j, k, out, hj, ho => by
    rw [spans_Text.l0, if_neg (by omega)]
    rw [List.take_of_length_le (by omega)] at ho
    subst ho
    unfold strings_Join.f
    have hj43 : (Lib.join ((l.map oneS).map (·.data.toList)) [44]).length ≤ 140737488355328 := by
      have := join_le 44 ((l.map oneS).map (·.data.toList)) (by
        intro x hx
        rw [List.map_map] at hx
        obtain ⟨s, hs, rfl⟩ := List.mem_map.1 hx
        have h := hin s hs
        have := oneS_le s h.1 h.2.1 h.2.2
        show (oneS s).data.toList.length ≤ 43
        rw [Array.length_toList]; exact this)
      rw [List.length_map, List.length_map] at this
      omega
    rw [if_pos ⟨by rw [List.length_map]; exact hl, hj43⟩]
    rfl
  | n + 1, j, k, out, hj, ho => by
    have hlt : j < l.length := by omega
    have hs := hin l[j] (List.getElem_mem hlt)
    have ew : wrap64 ((j : Int) + 1) = ((j + 1 : Nat) : Int) := by rw [w64 _ (by omega) (by omega)]; omega
    have hol : out.length < 8796093022208 := by rw [ho, List.length_map, List.length_take]; omega
    have ei : ∀ m : Int, 0 ≤ m → m ≤ 16383 → strconv_Itoa.f m = some (itoaB m) := fun m h0 h1 => by unfold strconv_Itoa.f; rw [if_pos ⟨by omega, by omega⟩]
    have a := itoaB_le hs.1 (by omega)
    have b := itoaB_le (n := l[j].f1) (by omega) hs.2.2
    rw [show k + (n + 1) + 1 = (k + n + 1) + 1 by omega, spans_Text.l0, if_pos (by omega), if_pos (by omega), if_pos (by omega), rd_at l j hlt, ew, ei _ hs.1 (by omega), ei _ (by omega) hs.2.2]
    have ho2 : (l.take (j + 1)).map oneS = out ++ [oneS l[j]] := by rw [List.take_succ_eq_append_getElem hlt, List.map_append, ← ho]; rfl
    simp only [Option.bind_some]
    by_cases c : l[j].f1 > l[j].f0
    · rw [if_pos c, if_pos (by omega), if_pos (by rw [ByteArray.size_append]; show _ + (1 + _) ≤ _; omega), if_pos hol]
      refine text_loop l hl hin n (j + 1) k _ (by omega) ?_
      rw [ho2]; unfold oneS; rw [if_pos c]
    · rw [if_neg c, if_pos hol]
      refine text_loop l hl hin n (j + 1) k _ (by omega) ?_
      rw [ho2]; unfold oneS; rw [if_neg c]
theorem text_f (l : List S31) (hl : l.length ≤ 1000000000) (k : Nat) : spans_Text.f (k + l.length + 1) l = some (textS l) := by
  have hn := normS_len l
  unfold spans_Text.f
  rw [norm_f l hl k, Option.bind_some]
  have h := text_loop (normS l) (by omega) (mayF_in (norm_spec l).1 (by omega)) (normS l).length 0 (k + l.length - (normS l).length) [] (by omega) (by simp)
  rw [show k + l.length - (normS l).length + (normS l).length + 1 = k + l.length + 1 by omega] at h
  exact h
theorem text_any (A0 : Option Addr) (c0 : Nat) (l0 : List S31) (w : World) (hr0 : Kd.C k31 w A0 l0.length l0) (hc0 : l0.length ≤ c0) (h0 : l0.length ≤ 1000000000) (hW : Wd w) :
    Calls Tryd.prog 22 #[.slice A0 l0.length c0] w fun e w' => e = .returned (.string (textS l0)) ∧ Below w.heap.size w w' :=
  spans_Text.calls (0 + l0.length + 1) A0 c0 l0 _ w hr0 hc0 (text_f l0 h0 0) hW
end Go.Proofs.YtnlakdpfkgjdaaaDoor.G
