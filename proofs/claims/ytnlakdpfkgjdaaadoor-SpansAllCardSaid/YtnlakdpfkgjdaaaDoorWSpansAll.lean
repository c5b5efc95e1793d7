import Derived.Test.YtnlakdpfkgjdaaaDoorCavR
import Derived.Test.YtnlakdpfkgjdaaaDoorG0
import Derived.Test.YtnlakdpfkgjdaaaDoorPXb
/- How lists of spans read as an argument. No conditions. -/
namespace Go.Proofs.YtnlakdpfkgjdaaaDoor
open Go.RowKit Go.Cav Go.Proofs.YtnlakdpfkgjdaaaDoor.G Go.Proofs.YtnlakdpfkgjdaaaDoorW.PrintWords
def rSp (_ : World) (cs : List Value) (x : S31) : Prop := cs = [.int .i64 x.f0, .int .i64 x.f1] ∧ -9223372036854775808 ≤ x.f1
theorem cInt : Tryd.prog.cellsOf 3 = 1 := by kernel_rfl
theorem cSp : Tryd.prog.cellsOf 31 = 2 := by kernel_rfl
theorem low_i64 {x : Int} (h : (Lit.int .i64 x).wf = true) : -9223372036854775808 ≤ x := by
  simp only [Lit.wf] at h
  revert h; simp [IntKind.min, IntKind.max, IntKind.signed, IntKind.bits]; omega
theorem opens_sp : Opens Tryd.prog 31 rSp := by
  intro H enc w fuel cs d ps h hf
  have hl := opens_cells Tryd.underlying31 h
  rw [cSp] at hl
  obtain ⟨x0, h0⟩ := opens_at Tryd.underlying31 h hf 0 3 0 1 rfl cInt (opens_int Tryd.underlying3)
  obtain ⟨x1, h1⟩ := opens_at Tryd.underlying31 h hf 1 3 1 1 rfl cInt (opens_int Tryd.underlying3)
  obtain ⟨a, b, rfl⟩ : ∃ a b, cs = [a, b] := by
    match cs, hl with
    | [a, b], _ => exact ⟨a, b, rfl⟩
  obtain ⟨e0, w0⟩ := h0
  obtain ⟨e1, w1⟩ := h1
  simp at e0 e1
  subst e0; subst e1
  exact ⟨⟨x0, x1⟩, rfl, low_i64 w1⟩
theorem row_C {α : Type} {d : Kd α} {size bytes : Nat} {R : World → List Value → α → Prop} {w : World} {v : Value} {l : List α} (hs : d.sz = size) (_ : 0 < bytes) (hR : ∀ cs x, R w cs x → d.K w x cs) (h : rSlice size bytes R w [v] l) :
    ∃ A c, v = .slice A l.length c ∧ l.length ≤ c ∧ Kd.C d w A l.length l ∧ l.length * bytes ≤ 140737488351232 := by
  subst hs
  rcases h with ⟨h1, rfl⟩ | ⟨a, cap, h1, h2, h3, h4, hel⟩
  · cases h1
    exact ⟨none, 0, rfl, by simp, ⟨rfl, by simp, fun h => by simp at h⟩, by simp⟩
  · cases h1
    refine ⟨some a, cap, rfl, h2, ⟨rfl, by simp only [maxLen] at h4; omega, fun _ => ⟨a, rfl, fun j p hj => ?_⟩⟩, Nat.le_trans (Nat.mul_le_mul_right _ h2) h3⟩
    obtain ⟨ci, q1, q2, q3⟩ := hel j p hj
    exact ⟨ci, q1, hR _ _ q3, q2⟩
theorem row_all {α : Type} {size bytes : Nat} {R : World → List Value → α → Prop} {w : World} {cs : List Value} {l : List α} (h : rSlice size bytes R w cs l) : ∀ x ∈ l, ∃ ci, R w ci x := by
  intro x hx
  rcases h with ⟨_, rfl⟩ | ⟨a, cap, _, _, _, _, hel⟩
  · cases hx
  · obtain ⟨i, hi, rfl⟩ := List.getElem_of_mem hx
    obtain ⟨ci, _, _, q3⟩ := hel i _ (List.getElem?_eq_getElem hi)
    exact ⟨ci, q3⟩
theorem spans_C {w : World} {v : Value} {l : List S31} (h : rSlice 2 16 rSp w [v] l) : (∃ A c, v = .slice A l.length c ∧ l.length ≤ c ∧ Kd.C k31 w A l.length l) ∧ ∀ s ∈ l, -9223372036854775808 ≤ s.f1 := by
  obtain ⟨A, c, h1, h2, h3, _⟩ := row_C (d := k31) rfl (by decide) (fun cs x h => by obtain ⟨rfl, _⟩ := h; exact k31_mk w x) h
  exact ⟨⟨A, c, h1, h2, h3⟩, fun s hs => by obtain ⟨_, _, h⟩ := row_all h s hs; exact h⟩
end Go.Proofs.YtnlakdpfkgjdaaaDoor

/- For every text that is no longer than the statement speaks of, the program's reading of spans and the reference's are one. No conditions. -/
namespace Go.Proofs.YtnlakdpfkgjdaaaDoor.Pure
open Go.RowKit Go.Pk Go.Cav Go.Proofs.YtnlakdpfkgjdaaaDoor.G Go.Proofs.YtnlakdpfkgjdaaaDoorW.PrintWords Go.Proofs.YtnlakdpfkgjdaaaDoorW.PrintLast Go.Proofs.YtnlakdpfkgjdaaaDoorW.PrintMore
theorem awake_ev : Ev (fun k => caravanlaw2_awake.f k) true := ⟨3, fun k hk => by
  obtain ⟨d, rfl⟩ : ∃ d, k = d + 3 := ⟨k - 3, by omega⟩
  exact awake_ok d⟩
theorem readP_none {s : ByteArray} (h : (readP s).2 = false) : (readP s).1 = [] := by
  unfold readP at h ⊢
  split at h
  · cases h
  · rename_i c; rw [if_neg c]
theorem readP_len (s : ByteArray) (hs : s.size ≤ 1000000) : (readP s).1.length ≤ 1000000000000 := by
  unfold readP
  split
  · have := readL_len (cutB s); have := cutB_len s; show (readL (cutB s)).length ≤ _; omega
  · simp
theorem texts_ev (s : ByteArray) : Ev (fun k => caravanlaw2_SpansTexts.f k s) true := by
  by_cases c : (s.size : Int) > 300
  · exact Ev.fn (fun k => by unfold caravanlaw2_SpansTexts.f; rw [if_pos c]) (Ev.seq awake_ev (Ev.now true))
  · have hr := rread_ev s (by omega)
    have hs := same_ev (readP s).1 (readP s).1 (readP_len s (by omega))
    rw [decide_eq_true rfl] at hs
    have e1 : spans_Read.f s = some (readP s) := by unfold spans_Read.f; rw [if_pos (by omega)]
    refine Ev.fn (f := fun k => (caravanref1_ReadSpans.f k s).bind fun b => if ((readP s).2 == b.2) = true then (caravanref1_SameSpans.f k (readP s).1 b.1).bind fun t => if t = true then (if (readP s).2 = true then (caravanlaw2_awake.f k).bind fun u => some u else if ((readP s).1.length : Int) = 0 then (caravanlaw2_awake.f k).bind fun u => some u else some false) else some false else some false)
      (fun k => by unfold caravanlaw2_SpansTexts.f; rw [if_neg c, e1]; rfl) (Ev.seq hr (Ev.fn (f := fun k => (caravanref1_SameSpans.f k (readP s).1 (readP s).1).bind fun t => if t = true then (if (readP s).2 = true then (caravanlaw2_awake.f k).bind fun u => some u else if ((readP s).1.length : Int) = 0 then (caravanlaw2_awake.f k).bind fun u => some u else some false) else some false) (fun k => by rw [if_pos (by simp)]) (Ev.seq hs (Ev.fn (f := fun k => if (readP s).2 = true then (caravanlaw2_awake.f k).bind fun u => some u else if ((readP s).1.length : Int) = 0 then (caravanlaw2_awake.f k).bind fun u => some u else some false) (fun k => by rw [if_pos rfl]) ?_))))
    have ha := Ev.seq awake_ev (f := fun _ u => some u) (Ev.now true)
    by_cases d : (readP s).2 = true
    · exact Ev.fn (fun k => by rw [if_pos d]) ha
    · exact Ev.fn (fun k => by rw [if_neg d, if_pos (by rw [readP_none (by simpa using d)]; rfl)]) ha
theorem SpansTexts : caravanlaw2_SpansTexts.Pure := fun s _ => Ev.rounds (texts_ev s)
end Go.Proofs.YtnlakdpfkgjdaaaDoor.Pure

/- For every list of spans that is no longer than the statement speaks of, whether it may be, what it says, how many, its text are the reference's. Condition: ends are 64-bit numbers. -/
namespace Go.Proofs.YtnlakdpfkgjdaaaDoor.Pure
open Go.RowKit Go.Pk Go.Cav Go.Proofs.YtnlakdpfkgjdaaaDoor.G Go.Proofs.YtnlakdpfkgjdaaaDoorW.PrintWords Go.Proofs.YtnlakdpfkgjdaaaDoorW.PrintLast Go.Proofs.YtnlakdpfkgjdaaaDoorW.PrintMore
/-- from some number of rounds on -/
theorem ev_from {α : Type} {g : Nat → Option α} {r : α} (n : Nat) (h : ∀ k, g (k + n + 1) = some r) : Ev g r := ⟨n + 1, fun k hk => by
  obtain ⟨d, rfl⟩ : ∃ d, k = d + n + 1 := ⟨k - (n + 1), by omega⟩
  exact h d⟩
theorem pmay_ev (l : List S31) (hl : l.length ≤ 1000000) : Ev (fun k => spans_May.f k l) (mayB l) := ev_from l.length (may_f l (by omega))
theorem pnorm_ev (l : List S31) (hl : l.length ≤ 1000000) : Ev (fun k => spans_Norm.f k l) (normS l) := ev_from l.length (norm_f l (by omega))
theorem pcount_ev (l : List S31) (hl : l.length ≤ 1000000) : Ev (fun k => spans_Count.f k l) (widS (normS l)) := ev_from l.length (count_f l (by omega))
theorem ptext_ev (l : List S31) (hl : l.length ≤ 1000000) : Ev (fun k => spans_Text.f k l) (textS l) := ev_from l.length (text_f l (by omega))
theorem phas (l : List S31) (n : Int) (hl : l.length ≤ 1000000) : spans_Has.f l n = some (sayS l n) := by unfold spans_Has.f; rw [if_pos (by omega)]
theorem same_refl (l : List S31) (hl : l.length ≤ 1000000) : Ev (fun k => caravanref1_SameSpans.f k l l) true := Ev.same (same_ev l l (by omega)) (decide_eq_true rfl)
theorem awake_some : Ev (fun k => (caravanlaw2_awake.f k).bind fun u => some u) true := Ev.seq awake_ev (f := fun _ u => some u) (Ev.now true)
theorem if_true_ev {α : Type} {a b : Nat → Option α} {p : Bool} {r : α} (hp : p = true) (h : Ev a r) : Ev (fun k => if p = true then a k else b k) r := Ev.fn (fun k => by rw [if_pos hp]) h
theorem all_ev (l : List S31) (n : Int) (hw : ∀ s ∈ l, -9223372036854775808 ≤ s.f1) : Ev (fun k => caravanlaw2_SpansAll.f k l n) true := by
  by_cases c : (l.length : Int) > 40
  · exact Ev.fn (fun k => by unfold caravanlaw2_SpansAll.f; rw [if_pos c]) awake_some
  · have hl : l.length ≤ 1000000 := by omega
    have hn := normS_len l
    refine Ev.fn (fun k => by unfold caravanlaw2_SpansAll.f; rw [if_neg c, phas l n hl]) ?_
    refine Ev.seq (pmay_ev l hl) (Ev.seq (rmay_ev l (by omega)) (if_true_ev (by simp) ?_))
    refine Ev.seq (pnorm_ev l hl) (Ev.seq (rnorm_ev l (by omega) hw) (Ev.seq (same_refl (normS l) (by omega)) (if_true_ev rfl ?_)))
    refine Ev.fn (f := fun k => (caravanref1_Has.f k l n).bind fun t => _) (fun k => rfl) (Ev.seq (rhas_ev l (by omega) n) (if_true_ev (by simp) ?_))
    refine Ev.seq (pcount_ev l hl) (Ev.seq (rcount_ev l (by omega) hw) (Ev.fn (fun k => by rw [if_pos rfl]) ?_))
    exact Ev.seq (ptext_ev l hl) (Ev.seq (rtext_ev l (by omega) hw) (Ev.fn (fun k => by rw [if_pos rfl]) awake_some))
end Go.Proofs.YtnlakdpfkgjdaaaDoor.Pure

/- The walk of SpansAll: it answers true. Condition: strconv's variables are as they are laid. -/
namespace Go.Proofs.YtnlakdpfkgjdaaaDoor
open Go.RowKit Go.Cav Go.Proofs.YtnlakdpfkgjdaaaDoor.G Go.Proofs.YtnlakdpfkgjdaaaDoorW.PrintWords
theorem spansAll_walk {W : World} (hWd_ : Wd W) (v0 : Value) (l0 : List S31) (h0 : rSlice 2 16 rSp W [v0] l0) (a1 : Int) (_ : (Lit.int .i64 a1).wf = true) :
    Calls Tryd.prog 5 #[v0, .int .i64 a1] W fun e w' => e = .returned (.bool true) ∧ Below W.heap.size W w' := by
  obtain ⟨⟨A, c, rfl, hc, hC⟩, hw⟩ := spans_C h0
  obtain ⟨k, hk⟩ := Ev.rounds (Pure.all_ev l0 a1 hw)
  exact caravanlaw2_SpansAll.calls k A c l0 a1 true W hC hc hk rfl hWd_
end Go.Proofs.YtnlakdpfkgjdaaaDoor
