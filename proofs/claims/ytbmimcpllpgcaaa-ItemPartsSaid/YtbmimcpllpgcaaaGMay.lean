/- What 'May' tells of an item, in the print's form of a contract. Conditions: bounds on its elements' number. -/
import Derived.Test.YtbmimcpllpgcaaaG0
import Derived.Test.YtbmimcpllpgcaaaIf
namespace Go.Proofs.Ytbmimcpllpgcaaa.G
open Go.RowKit Go.Cav Go.Proofs.YtbmimcpllpgcaaaW.PrintWords Go.Proofs.YtbmimcpllpgcaaaW.PrintLast Go.Proofs.YtbmimcpllpgcaaaW.PrintMore

def risesB : List ByteArray → Bool
  | [] => true
  | [_] => true
  | x :: y :: l => !lowP y x && risesB (y :: l)
theorem risesB_iff : ∀ l : List ByteArray, risesB l = true ↔ risesP l
  | [] => by simp [risesB, risesP]
  | [x] => by simp [risesB, risesP]
  | x :: y :: l => by
    have ih := risesB_iff (y :: l)
    rw [show risesB (x :: y :: l) = (!lowP y x && risesB (y :: l)) from rfl, show risesP (x :: y :: l) = ((∀ z, (y :: l).head? = some z → lowP z x = false) ∧ risesP (y :: l)) from rfl, Bool.and_eq_true, ih]
    simp
def someB (n : Nat) : Bool := decide (1 ≤ n) && decide (n ≤ 40)
theorem someB_iff (n : Nat) : someB n = true ↔ someP n := by simp [someB, someP]
def pairs (l : List S29) : List (ByteArray × ByteArray) := l.map fun x => (x.f0, x.f1)
def shapedB (k : Int) (s : ByteArray) (fs : List S29) (ls : List ByteArray) : Bool :=
  (k == 1 && fs.length + ls.length == 0) || (k == 2 && s.toList.isEmpty && ls.length == 0 && someB fs.length && risesB (fs.map S29.f0)) ||
  (k == 3 && s.toList.isEmpty && fs.length == 0 && someB ls.length) || (k == 4 && s.toList.isEmpty && fs.length == 0 && someB ls.length && risesB ls)
def mayB (k : Int) (s : ByteArray) (fs : List S29) (ls : List ByteArray) (e : Int) : Bool :=
  shapedB k s fs ls && decide (0 ≤ e) && decide (e ≤ 9007199254740992) && (s :: (fs.flatMap fun x => [x.f0, x.f1]) ++ ls).all (fun t => decide (t.size ≤ 300))
theorem fst_pairs (fs : List S29) : (pairs fs).map Prod.fst = fs.map S29.f0 := by simp [pairs, Function.comp_def]
theorem pairs_length (fs : List S29) : (pairs fs).length = fs.length := by simp [pairs]
theorem fflat_pairs (fs : List S29) : fflat (pairs fs) = fs.flatMap fun x => [x.f0, x.f1] := by simp [fflat, pairs, List.flatMap_map]
theorem shapedB_iff (k : Int) (s : ByteArray) (fs : List S29) (ls : List ByteArray) (e : Int) : shapedB k s fs ls = true ↔ shapedP ⟨k, s, pairs fs, ls, e⟩ := by
  unfold shapedB shapedP
  simp only [Bool.or_eq_true, Bool.and_eq_true, beq_iff_eq, someB_iff, risesB_iff, fst_pairs, pairs_length]
  simp only [and_assoc, or_assoc]
theorem mayB_iff (k : Int) (s : ByteArray) (fs : List S29) (ls : List ByteArray) (e : Int) : mayB k s fs ls e = true ↔ mayP ⟨k, s, pairs fs, ls, e⟩ := by
  unfold mayB mayP
  rw [Bool.and_eq_true, Bool.and_eq_true, Bool.and_eq_true, shapedB_iff k s fs ls e, List.all_eq_true]
  simp only [decide_eq_true_eq, allTexts, fflat_pairs, and_assoc, List.cons_append]

theorem fields_C {w : World} {A : Option Addr} {c : Nat} {l : List S29} (h : Kd.C k29 w A l.length l) : FieldsAt w (.slice A l.length c) (pairs l) := by
  rcases A with _ | ad
  · have hl : l = [] := by
      rcases Nat.eq_zero_or_pos l.length with h0 | h0
      · exact List.eq_nil_of_length_eq_zero h0
      · obtain ⟨ad, e, _⟩ := h.2.2 h0
        cases e
    subst hl
    exact .inl ⟨c, rfl, rfl⟩
  · refine .inr ⟨ad, c, by rw [pairs_length], fun i x hx => ?_⟩
    obtain ⟨y, hy, rfl⟩ := Option.map_eq_some_iff.1 (by simpa [pairs] using hx)
    have hi : i < l.length := (List.getElem?_eq_some_iff.1 hy).1
    obtain ⟨ad', e, hc⟩ := h.2.2 (by omega)
    cases e
    obtain ⟨cs, h1, h2, h3⟩ := hc i y hy
    obtain rfl := k29_open h2
    exact ⟨h3 0 _ rfl, h3 1 _ rfl⟩
theorem list_C {w : World} {A : Option Addr} {c : Nat} {l : List ByteArray} (h : Kd.C Kd.string w A l.length l) : ReadsA w 1 (.slice A l.length c) l.length (l.map .string) := by
  refine ⟨by simp, ?_⟩
  rcases A with _ | ad
  · have hl : l = [] := by
      rcases Nat.eq_zero_or_pos l.length with h0 | h0
      · exact List.eq_nil_of_length_eq_zero h0
      · obtain ⟨ad, e, _⟩ := h.2.2 h0
        cases e
    subst hl
    exact .inl ⟨c, rfl, rfl⟩
  · refine .inr ⟨ad, c, rfl, fun i x hx => ?_⟩
    obtain ⟨y, hy, rfl⟩ := Option.map_eq_some_iff.1 (by simpa using hx)
    have hi : i < l.length := (List.getElem?_eq_some_iff.1 hy).1
    obtain ⟨ad', e, hc⟩ := h.2.2 (by omega)
    cases e
    obtain ⟨cs, h1, h2, h3⟩ := hc i y hy
    obtain rfl : cs = [.string y] := h2
    have := h3 0 _ rfl
    simpa [Kd.string, Kd.scalar] using this

def item_May.f (a0_0 : Int) (a0_1 : ByteArray) (l0_2 : List (S29)) (l0_3 : List ByteArray) (a0_4 : Int) : Option (Bool) :=
  if l0_2.length ≤ 10000000000 ∧ l0_3.length ≤ 10000000000 then some (mayB a0_0 a0_1 l0_2 l0_3 a0_4) else none
set_option linter.unusedVariables false in
theorem item_May.calls (a0_0 : Int) (a0_1 : ByteArray) (A0_2 : Option Addr) (c0_2 : Nat) (l0_2 : List (S29)) (A0_3 : Option Addr) (c0_3 : Nat) (l0_3 : List ByteArray) (a0_4 : Int) (r : Bool) (w : World) (hr0_2 : Kd.C k29 w A0_2 l0_2.length l0_2) (hc0_2 : l0_2.length ≤ c0_2) (hr0_3 : Kd.C Kd.string w A0_3 l0_3.length l0_3) (hc0_3 : l0_3.length ≤ c0_3) (h : item_May.f a0_0 a0_1 l0_2 l0_3 a0_4 = some r) :
    Calls Try.prog 9 #[.agg #[.int .i64 a0_0, .string a0_1, .slice A0_2 l0_2.length c0_2, .slice A0_3 l0_3.length c0_3, .int .i64 a0_4]] w fun e w' => e = .returned (.bool r) ∧ Below w.heap.size w w' := by
  unfold item_May.f at h
  split at h
  case isFalse => cases h
  case isTrue hb =>
    obtain rfl := Option.some.inj h
    refine (may_any w ⟨a0_0, a0_1, pairs l0_2, l0_3, a0_4⟩ (.slice A0_2 l0_2.length c0_2) (.slice A0_3 l0_3.length c0_3) ⟨fields_C hr0_2, list_C hr0_3, ⟨by rw [pairs_length]; exact hb.1, hb.2⟩⟩).mono ?_
    rintro e w' ⟨b, rfl, h1, h2⟩
    refine ⟨?_, h2⟩
    have : b = mayB a0_0 a0_1 l0_2 l0_3 a0_4 := by
      rw [Bool.eq_iff_iff, h1, mayB_iff]
    rw [this]
end Go.Proofs.Ytbmimcpllpgcaaa.G
