/- The walk of ItemAll: how items read as arguments, and that it answers true. No conditions. -/
import Derived.Test.YtbmimcpllpgcaaaCavR
import Derived.Test.YtbmimcpllpgcaaaPureItemAll
namespace Go.Proofs.Ytbmimcpllpgcaaa
open Go.RowKit Go.Cav Go.Proofs.Ytbmimcpllpgcaaa.G Go.Proofs.YtbmimcpllpgcaaaW.PrintWords

def rField (_ : World) (cs : List Value) (x : S29) : Prop := cs = [.string x.f0, .string x.f1]
def rItem (w : World) (cs : List Value) (x : Pure.It) : Prop :=
  ∃ fv lv, cs = [.int .i64 x.k, .string x.s, fv, lv, .int .i64 x.e] ∧ rSlice 2 32 rField w [fv] x.f ∧ rSlice 1 16 rStr w [lv] x.l

theorem c3 : Try.prog.cellsOf 3 = 1 := by kernel_rfl
theorem c9 : Try.prog.cellsOf 9 = 1 := by kernel_rfl
theorem c23 : Try.prog.cellsOf 23 = 1 := by kernel_rfl
theorem c24 : Try.prog.cellsOf 24 = 1 := by kernel_rfl
theorem c26 : Try.prog.cellsOf 26 = 5 := by kernel_rfl
theorem c29 : Try.prog.cellsOf 29 = 2 := by kernel_rfl

theorem opens_afield : Opens Try.prog 29 rField := by
  intro H enc w fuel cs d ps h hf
  have hl := opens_cells Try.underlying29 h
  rw [c29] at hl
  obtain ⟨x0, h0⟩ := opens_at Try.underlying29 h hf 0 9 0 1 rfl c9 (opens_str Try.underlying9)
  obtain ⟨x1, h1⟩ := opens_at Try.underlying29 h hf 1 9 1 1 rfl c9 (opens_str Try.underlying9)
  obtain ⟨a, b, rfl⟩ : ∃ a b, cs = [a, b] := by
    match cs, hl with
    | [a, b], _ => exact ⟨a, b, rfl⟩
  obtain ⟨e0, _⟩ := h0
  obtain ⟨e1, _⟩ := h1
  simp at e0 e1
  subst e0; subst e1
  exact ⟨⟨x0, x1⟩, rfl⟩

theorem opens_item : Opens Try.prog 26 rItem := by
  intro H enc w fuel cs d ps h hf
  have hl := opens_cells Try.underlying26 h
  rw [c26] at hl
  obtain ⟨x0, h0⟩ := opens_at Try.underlying26 h hf 0 3 0 1 rfl c3 (opens_int Try.underlying3)
  obtain ⟨x1, h1⟩ := opens_at Try.underlying26 h hf 1 9 1 1 rfl c9 (opens_str Try.underlying9)
  obtain ⟨x2, h2⟩ := opens_at (R := rSlice 2 32 rField) Try.underlying26 h hf 2 23 2 1 rfl c23 (opens_slice (R := rField) Try.underlying23 (by kernel_rfl) (by kernel_rfl) opens_afield)
  obtain ⟨x3, h3⟩ := opens_at (R := rSlice 1 16 rStr) Try.underlying26 h hf 3 24 3 1 rfl c24 (opens_slice (R := rStr) Try.underlying24 (by kernel_rfl) (by kernel_rfl) (opens_str Try.underlying9))
  obtain ⟨x4, h4⟩ := opens_at Try.underlying26 h hf 4 3 4 1 rfl c3 (opens_int Try.underlying3)
  obtain ⟨a, b, c, d', e, rfl⟩ : ∃ a b c d e, cs = [a, b, c, d, e] := by
    match cs, hl with
    | [a, b, c, d, e], _ => exact ⟨a, b, c, d, e, rfl⟩
  obtain ⟨e0, w0⟩ := h0
  obtain ⟨e1, w1⟩ := h1
  obtain ⟨e4, w4⟩ := h4
  simp at e0 e1 e4
  subst e0; subst e1; subst e4
  exact ⟨⟨x0, x1, x2, x3, x4⟩, c, d', rfl, by simpa using h2, by simpa using h3⟩

theorem row_C {α : Type} {d : Kd α} {size bytes : Nat} {R : World → List Value → α → Prop} {w : World} {v : Value} {l : List α} (hs : d.sz = size) (_ : 0 < bytes) (hR : ∀ cs x, R w cs x → d.K w x cs) (h : rSlice size bytes R w [v] l) :
    ∃ A c, v = .slice A l.length c ∧ l.length ≤ c ∧ Kd.C d w A l.length l ∧ l.length * bytes ≤ 140737488351232 := by
  subst hs
  rcases h with ⟨h1, rfl⟩ | ⟨a, cap, h1, h2, h3, h4, hel⟩
  · cases h1
    exact ⟨none, 0, rfl, by simp, ⟨rfl, by simp, fun h => by simp at h⟩, by simp⟩
  · cases h1
    refine ⟨some a, cap, rfl, h2, ⟨rfl, by simp only [maxLen] at h4; omega, fun _ => ⟨a, rfl, fun j p hj => ?_⟩⟩, Nat.le_trans (Nat.mul_le_mul_right _ h2) h3⟩
    obtain ⟨ci, q1, q2, q3⟩ := hel j p hj
    exact ⟨ci, q1, hR _ _ q3, fun i u hu => q2 i u hu⟩

theorem itemAll_walk {W : World} (cs0 : Array Value) (x0 : Pure.It) (h0 : rItem W cs0.toList x0) (cs1 : Array Value) (x1 : Pure.It) (h1 : rItem W cs1.toList x1) (a2 : Int) (_ : (Lit.int .i64 a2).wf = true) :
    Calls Try.prog 5 #[.agg cs0, .agg cs1, .int .i64 a2] W fun e w' => e = .returned (.bool true) ∧ Below W.heap.size W w' := by
  obtain ⟨f0, l0, e0, hf0, hl0⟩ := h0
  obtain ⟨f1, l1, e1, hf1, hl1⟩ := h1
  obtain rfl : cs0 = #[.int .i64 x0.k, .string x0.s, f0, l0, .int .i64 x0.e] := by cases cs0; simpa using e0
  obtain rfl : cs1 = #[.int .i64 x1.k, .string x1.s, f1, l1, .int .i64 x1.e] := by cases cs1; simpa using e1
  obtain ⟨A0, c0, rfl, q0, C0, b0⟩ := row_C (d := k29) rfl (by decide) (fun cs x h => by rw [show cs = _ from h]; exact k29_mk W x) hf0
  obtain ⟨A1, c1, rfl, q1, C1, b1⟩ := row_C (d := Kd.string) rfl (by decide) (fun cs x h => h.1) hl0
  obtain ⟨A2, c2, rfl, q2, C2, b2⟩ := row_C (d := k29) rfl (by decide) (fun cs x h => by rw [show cs = _ from h]; exact k29_mk W x) hf1
  obtain ⟨A3, c3, rfl, q3, C3, b3⟩ := row_C (d := Kd.string) rfl (by decide) (fun cs x h => h.1) hl1
  obtain ⟨k, hk⟩ := Pure.itemAll x0 x1 a2 (by omega) (by omega) (by omega) (by omega)
  exact caravanlaw5_ItemAll.calls k _ _ _ _ _ _ _ _ _ _ _ _ _ _ _ _ _ _ _ true W C0 q0 C1 q1 C2 q2 C3 q3 hk
end Go.Proofs.Ytbmimcpllpgcaaa
