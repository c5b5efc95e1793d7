/- What the printed walk of spans.Norm comes to. Condition: a bound on the list's length. -/
import Derived.Test.YtnlakdpfkgjdaaaDoorGNorm
import Derived.Test.YtnlakdpfkgjdaaaDoorPK
namespace Go.Proofs.YtnlakdpfkgjdaaaDoor.G
open Go Go.RowKit Go.Pk Go.Proofs.YtnlakdpfkgjdaaaDoorW.PrintWords Go.Proofs.YtnlakdpfkgjdaaaDoorW.PrintLast
theorem rd_at (l : List S31) (j : Nat) (h : j < l.length) : rd_T31 l (j : Int) = l[j] := by unfold rd_T31; simp [h]
theorem w64 (n : Int) (h0 : -9223372036854775808 ≤ n) (h1 : n ≤ 9223372036854775807) : wrap64 n = n := by unfold wrap64; omega
theorem step_set (q : List S31) (t s : S31) : (q ++ [t]).set q.length s = q ++ [s] := by simp
theorem step_len (out : List S31) (s : S31) : (stepS out s).length ≤ out.length + 1 := by
  unfold stepS
  rcases List.eq_nil_or_concat out with rfl | ⟨q, t, rfl⟩
  · simp
  · rw [List.concat_eq_append]; simp; split <;> simp
theorem fold_len (l : List S31) : ∀ out, (l.foldl stepS out).length ≤ out.length + l.length := by
  induction l with
  | nil => intro out; simp
  | cons s l ih => intro out; rw [List.foldl_cons]; have := ih (stepS out s); have := step_len out s; simp; omega
theorem norm_loop (l : List S31) (hl : l.length ≤ 1000000000) (hin : inS l) : ∀ (n j k : Nat) (out : List S31), j + n = l.length → out.length ≤ j → (∀ s ∈ out, s.f1 ≤ 16383 ∧ -1 ≤ s.f1) →
    spans_Norm.l0 (k + n + 1) out l (l.length : Int) (j : Int) = some ((l.drop j).foldl stepS out)
  | 0, j, k, out, hj, ho, hb => by
    rw [spans_Norm.l0, if_neg (by omega), List.drop_of_length_le (by omega)]; rfl
  | n + 1, j, k, out, hj, ho, hb => by
    have hlt : j < l.length := by omega
    have hs := hin l[j] (List.getElem_mem hlt)
    have ew : wrap64 ((j : Int) + 1) = ((j + 1 : Nat) : Int) := by rw [w64 _ (by omega) (by omega)]; omega
    have ih := fun out' h1 h2 => norm_loop l hl hin n (j + 1) k out' (by omega) h1 h2
    rw [show k + (n + 1) + 1 = (k + n + 1) + 1 by omega, spans_Norm.l0, if_pos (by omega), if_pos (by omega), if_pos (by omega), rd_at l j hlt, ew, List.drop_eq_getElem_cons hlt, List.foldl_cons]
    have hbs : ∀ s ∈ stepS out l[j], s.f1 ≤ 16383 ∧ -1 ≤ s.f1 := by
      intro s hmem
      unfold stepS at hmem
      rcases List.eq_nil_or_concat out with rfl | ⟨q, t, rfl⟩
      · rw [show ([] : List S31).getLast? = none from rfl] at hmem
        rw [List.mem_singleton.1 hmem]; omega
      · rw [List.concat_eq_append] at hmem hb
        have ht := hb t (by simp)
        rw [show (q ++ [t]).getLast? = some t by simp] at hmem
        dsimp only at hmem
        split at hmem
        · rw [List.dropLast_concat] at hmem
          rcases List.mem_append.1 hmem with h | h
          · exact hb s (by simp [h])
          · rw [List.mem_singleton.1 h]; show max _ _ ≤ _ ∧ _ ≤ max _ _; omega
        · rcases List.mem_append.1 hmem with h | h
          · exact hb s h
          · rw [List.mem_singleton.1 h]; omega
    have hlen := step_len out l[j]
    have ih := ih (stepS out l[j]) (by omega) hbs
    rcases List.eq_nil_or_concat out with rfl | ⟨q, t, rfl⟩
    · rw [if_neg (by simp), if_pos (by simp)]
      exact ih
    · rw [List.concat_eq_append] at hb ho hlen ih ⊢
      have ht := hb t (by simp)
      have hq : (q ++ [t]).length = q.length + 1 := by simp
      have e1 : wrap64 (((q ++ [t]).length : Int) - 1) = (q.length : Int) := by rw [hq, w64 _ (by omega) (by omega)]; omega
      have e2 : rd_T31 (q ++ [t]) (q.length : Int) = t := by rw [rd_at _ _ (by rw [hq]; omega)]; simp
      have e3 : wrap64 (t.f1 + 1) = t.f1 + 1 := w64 _ (by omega) (by omega)
      have hst : stepS (q ++ [t]) l[j] = if l[j].f0 ≤ t.f1 + 1 then q ++ [⟨t.f0, max t.f1 l[j].f1⟩] else q ++ [t] ++ [l[j]] := by
        unfold stepS; rw [show (q ++ [t]).getLast? = some t by simp]; simp
      have hmx : mx t.f1 l[j].f1 = max t.f1 l[j].f1 := by unfold mx; split <;> omega
      rw [if_pos (by rw [hq]; omega), e1, if_pos (by omega), if_pos (by rw [hq]; omega), e2, e3]
      rw [hst] at ih ⊢
      by_cases c : l[j].f0 ≤ t.f1 + 1
      · rw [if_pos c] at ih ⊢
        rw [if_pos c, hmx, Int.toNat_natCast, step_set]
        exact ih
      · rw [if_neg c] at ih ⊢
        rw [if_neg c, if_pos (by rw [hq]; omega)]
        exact ih
theorem norm_f (l : List S31) (hl : l.length ≤ 1000000000) (k : Nat) : spans_Norm.f (k + l.length + 1) l = some (normS l) := by
  have hsp := pdqS_spec (cutS l)
  have hle := cutS_len l
  unfold spans_Norm.f spans_said.f
  rw [if_pos hl]
  simp only [Option.bind_some]
  have h := norm_loop (pdqS (cutS l)) (by rw [hsp.1]; omega) (fun s hs => cut_in l s ((hsp.2.1 s).1 hs)) (pdqS (cutS l)).length 0 (k + l.length - (pdqS (cutS l)).length) [] (by omega) (by simp) (fun s hs => by cases hs)
  rw [show k + l.length - (pdqS (cutS l)).length + (pdqS (cutS l)).length + 1 = k + l.length + 1 by rw [hsp.1]; omega] at h
  rw [show ((0 : Nat) : Int) = 0 from rfl, List.drop_zero] at h
  rw [h]
  exact congrArg some (norm_merge l _ hsp.2.1 hsp.2.2)
theorem norm_any (A0 : Option Addr) (c0 : Nat) (l0 : List S31) (w : World) (hr0 : Kd.C k31 w A0 l0.length l0) (hc0 : l0.length ≤ c0) (h0 : l0.length ≤ 1000000000) :
    Calls Tryd.prog 16 #[.slice A0 l0.length c0] w fun e w' => ∃ v0_ : Value, e = .returned (v0_) ∧ Kd.R k31 31 w' w.heap.size (fun _ => True) v0_ (normS l0) ∧ Below w.heap.size w w' :=
  spans_Norm.calls (0 + l0.length + 1) A0 c0 l0 _ w hr0 hc0 (norm_f l0 h0 0)
theorem normS_len (l : List S31) : (normS l).length ≤ l.length := by
  have h := fold_len (pdqS (cutS l)) []
  have hsp := pdqS_spec (cutS l)
  have hle := cutS_len l
  have e : mergeS (pdqS (cutS l)) = normS l := norm_merge l _ hsp.2.1 hsp.2.2
  rw [← e]
  show ((pdqS (cutS l)).foldl stepS []).length ≤ _
  rw [hsp.1] at h
  simp at h; omega
end Go.Proofs.YtnlakdpfkgjdaaaDoor.G
