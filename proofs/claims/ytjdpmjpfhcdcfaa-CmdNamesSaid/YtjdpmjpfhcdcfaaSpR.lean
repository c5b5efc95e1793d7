/- ref.spec and ref.one: what they answer. No conditions. -/
import Derived.Test.YtjdpmjpfhcdcfaaProg
import Derived.Test.YtjdpmjpfhcdcfaaCavA
import Derived.Test.YtjdpmjpfhcdcfaaFi
import Derived.Test.YtjdpmjpfhcdcfaaWLast
import Derived.Laws.Rows
import Derived.Laws.Tables
import Derived.Great.BuildSlice
import Derived.Great.Walk
namespace Go.Proofs.Ytjdpmjpfhcdcfaa
open Go.RowKit Go.Cav
attribute [local go_sem] Oper.semAt_some
set_option maxRecDepth 100000 in
set_option maxHeartbeats 4000000 in
theorem spec_calls (n : ByteArray) (a b c d e : Int) (x : Bool) (w : World) :
    Calls Try.prog 31 #[.string n, .int .i64 a, .int .i64 b, .int .i64 c, .int .i64 d, .int .i64 e, .bool x] w fun en w' => en = .returned (.agg #[.string n, .int .i64 a, .int .i64 b, .int .i64 c, .int .i64 d, .int .i64 e, .bool x]) ∧ Below w.heap.size w w' := by
  go_enter Try.func31, Try.ntmps31
  go_wp2
  refine ⟨rfl, _, results_cell_row rfl _ _ w.heap.size 26 _ (0, 0) _ rfl ?_ Try.underlying26 rfl (by kernel_rfl), rfl, ?_⟩
  · show (w.heap.push _)[w.heap.size]? = _
    simp
  · exact ((Stir.refl (fun _ => False) w).alloc _).below (Nat.le_refl _) (fun _ h => h.elim)
set_option maxRecDepth 100000 in
set_option maxHeartbeats 4000000 in
theorem one_calls (n : ByteArray) (a b : Int) (x : Bool) (w : World) :
    Calls Try.prog 32 #[.string n, .int .i64 a, .int .i64 b, .bool x] w fun en w' => en = .returned (.agg #[.string n, .int .i64 a, .int .i64 b, .int .i64 1, .int .i64 1, .int .i64 1, .bool x]) ∧ Below w.heap.size w w' := by
  go_enter Try.func32, Try.ntmps32
  refine wp_seq_k fun K0 hK0 => ?_
  have HK0 := Lib.hid hK0
  clear hK0
  go_wp2
  refine HK0.out _ _ ?_
  clear HK0 K0
  refine wp_seq_k fun K1 hK1 => ?_
  have HK1 := Lib.hid hK1
  clear hK1
  go_wp2_with fail
  refine (spec_calls n a b 1 1 1 x _).mono ?_
  rintro en w1 ⟨rfl, hb⟩
  rename_i hKr
  refine hKr _ _ ?_
  clear hKr
  have hg : w1.heap[w.heap.size]? = some (.cells #[.string ⟨#[]⟩, .int .i64 0, .int .i64 0, .int .i64 0, .int .i64 0, .int .i64 0, .bool false] 26 (0, 0)) := by
    refine ((Stir.of_below hb (fun _ => False)).block w.heap.size (by simp) (fun h => h)).trans ?_
    show (w.heap.push _)[w.heap.size]? = _
    simp
  have hb1 : Below w.heap.size w w1 := ((Below.refl _ w).alloc (Nat.le_refl _) _).trans (hb.mono (by simp))
  clear hb
  refine wpList_store_row rfl 26 (.tmp 8) (.tmp 13) rfl w.heap.size #[.string n, .int .i64 a, .int .i64 b, .int .i64 1, .int .i64 1, .int .i64 1, .bool x] rfl rfl 26 _ hg (by kernel_rfl) rfl (encS_one ⟨n, a, b, 1, 1, 1, x⟩) ?_
  refine wpList_nil (HK1.out _ _ ?_)
  have hg2 := setRow_heap w1 w.heap.size _ #[.string n, .int .i64 a, .int .i64 b, .int .i64 1, .int .i64 1, .int .i64 1, .bool x] 26 (0, 0) hg
  have hb2 : Below w.heap.size w (w1.setRow w.heap.size #[.string n, .int .i64 a, .int .i64 b, .int .i64 1, .int .i64 1, .int .i64 1, .bool x]) :=
    ((Stir.of_below hb1 (fun k => w.heap.size ≤ k)).setRow (fun _ => Nat.le_refl _) _).below (Nat.le_refl _) (fun k h => h)
  refine wp_ret ?_
  refine ⟨rfl, _, results_cell_row rfl _ _ w.heap.size 26 _ (0, 0) _ rfl hg2 Try.underlying26 rfl (by kernel_rfl), rfl, hb2⟩

/-! the 54 calls -/
def callOf (b : Oper) : Option (Nat × List Value) :=
  match b.op with
  | .call c => match c.callee with
    | .value (.func f) => if b.guard.isNone && c.args.all isConst then some (f, (c.args.map cval).toList) else none
    | _ => none
  | _ => none
def callVal : Nat × List Value → Option Value
  | (31, [.string n, .int .i64 a, .int .i64 b, .int .i64 c, .int .i64 d, .int .i64 e, .bool x]) => some (.agg #[.string n, .int .i64 a, .int .i64 b, .int .i64 c, .int .i64 d, .int .i64 e, .bool x])
  | (32, [.string n, .int .i64 a, .int .i64 b, .bool x]) => some (.agg #[.string n, .int .i64 a, .int .i64 b, .int .i64 1, .int .i64 1, .int .i64 1, .bool x])
  | _ => none
def valOf (b : Oper) : Value := match callOf b with | some p => (callVal p).getD undef | none => undef
def okCall (b : Oper) : Bool := match callOf b with | some p => (callVal p).isSome | none => false
theorem callVal_calls (p : Nat × List Value) (v : Value) (h : callVal p = some v) (w : World) : Calls Try.prog p.1 p.2.toArray w (fun e w' => e = .returned v ∧ Below w.heap.size w w') ∧ (p.1 = 31 ∨ p.1 = 32) := by
  unfold callVal at h
  split at h
  · cases h; exact ⟨spec_calls _ _ _ _ _ _ _ w, .inl rfl⟩
  · cases h; exact ⟨one_calls _ _ _ _ w, .inr rfl⟩
  · cases h
theorem args_cval (a : Act) (l : Array Operand) (h : l.all isConst = true) : l.map a.eval = l.map cval := by
  apply Array.map_congr_left
  intro x hx
  rw [Array.all_eq_true_iff_forall_mem] at h
  have := h x hx
  cases x <;> simp_all [isConst, cval] <;> rfl
theorem wpList_specCalls {ops : Array Oper} {rest : List Oper} {Q : Exit → Act → World → Prop} (W0 : World) : ∀ (bs : List Oper) (a : Act) (w : World), Below W0.heap.size W0 w → bs.all okCall = true →
    (∀ w', Below W0.heap.size W0 w' → wpList Try.prog ops Q rest (bs.foldl (fun a b => a.put b.dst (valOf b)) a) w') → wpList Try.prog ops Q (bs ++ rest) a w
  | [], a, w, hw, _, h => h w hw
  | b :: bs, a, w, hw, hb, h => by
    rw [List.all_cons, Bool.and_eq_true] at hb
    obtain ⟨h1, h2⟩ := hb
    cases hc : callOf b with
    | none => unfold okCall at h1; rw [hc] at h1; cases h1
    | some p =>
      cases hv : callVal p with
      | none => unfold okCall at h1; rw [hc] at h1; simp only [hv] at h1; cases h1
      | some v =>
        have hvo : valOf b = v := by unfold valOf; rw [hc]; simp only [hv]; rfl
        obtain ⟨f, vs⟩ := p
        have hcc := hc
        unfold callOf at hcc
        split at hcc
        case h_2 => cases hcc
        case h_1 c hop =>
          split at hcc
          case h_2 => cases hcc
          case h_1 f' hcal =>
            split at hcc
            case isFalse => cases hcc
            case isTrue hok =>
              rw [Bool.and_eq_true] at hok
              have e0 := Option.some.inj hcc
              injection e0 with e1 e2
              subst e1
              obtain ⟨cal, args, tys⟩ := c
              dsimp only at hcal hok e2
              subst hcal
              have hargs : args.map a.eval = vs.toArray := by rw [args_cval a args hok.2, ← e2]
              have hcalls := callVal_calls (f', vs) v hv w
              have hf : ∃ fn, Try.prog.funcs[f']? = some fn ∧ (fn.name == "runtime.NumGoroutine") = false ∧ fn.body.isSome = true := by
                rcases hcalls.2 with e | e
                · obtain rfl : f' = 31 := e
                  exact ⟨_, Try.func31, by kernel_rfl, rfl⟩
                · obtain rfl : f' = 32 := e
                  exact ⟨_, Try.func32, by kernel_rfl, rfl⟩
              obtain ⟨fn, g1, g2, g3⟩ := hf
              refine Go.Proofs.YtjdpmjpfhcdcfaaW.PrintLast.goesL_ b.dst rfl (Option.isNone_iff_eq_none.1 hok.1) g1 g2 g3 vs.toArray hop hargs ?_
              refine hcalls.1.mono ?_
              rintro e w' ⟨rfl, hb'⟩
              refine ⟨v, rfl, ?_⟩
              refine wpList_specCalls W0 bs _ w' (hw.trans (hb'.mono hw.size)) h2 fun w'' hw'' => ?_
              have := h w'' hw''
              rw [List.foldl_cons, hvo] at this
              exact this
end Go.Proofs.Ytjdpmjpfhcdcfaa
