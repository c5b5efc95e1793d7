import Derived.Test.YtjdpmjpfhcdcfaaProg
import Derived.Test.YtjdpmjpfhcdcfaaCavA
import Derived.Test.YtjdpmjpfhcdcfaaWTab
import Derived.Great.BuildSlice
import Derived.Great.Walk
namespace Go.Proofs.Ytjdpmjpfhcdcfaa
open Go.RowKit Go.Cav
attribute [local go_sem] Oper.semAt_some

/-- a constant's value -/
def cval : Operand → Value
  | .const v => v
  | _ => undef
def bval (P : Program) (b : Oper) : Value :=
  match b.op with
  | .build t parts => .agg ((P.built t (parts.map fun (i, x) => (i, cval x)).toList).getD #[])
  | _ => undef
def isConst : Operand → Bool
  | .const _ => true
  | _ => false
def plainBuild (P : Program) (b : Oper) : Bool :=
  match b.op with
  | .build t parts => b.guard.isNone && parts.all (fun x => isConst x.2) && (P.built t (parts.map fun (i, x) => (i, cval x)).toList).isSome
  | _ => false
theorem parts_cval (a : Act) (parts : Array (Nat × Operand)) (h : parts.all (fun x => isConst x.2) = true) :
    (parts.map fun (i, x) => (i, a.eval x)) = (parts.map fun (i, x) => (i, cval x)) := by
  apply Array.map_congr_left
  intro x hx
  rw [Array.all_eq_true_iff_forall_mem] at h
  have := h x hx
  obtain ⟨i, x⟩ := x
  cases x <;> simp_all [isConst, cval] <;> rfl
theorem wpList_builds {P : Program} {ops : Array Oper} {rest : List Oper} {Q : Exit → Act → World → Prop} {w : World} : ∀ (bs : List Oper) (a : Act), bs.all (plainBuild P) = true →
    wpList P ops Q rest (bs.foldl (fun a b => a.put b.dst (bval P b)) a) w → wpList P ops Q (bs ++ rest) a w
  | [], a, _, h => h
  | b :: bs, a, hb, h => by
    rw [List.all_cons, Bool.and_eq_true] at hb
    obtain ⟨h1, h2⟩ := hb
    have ih := wpList_builds bs (a.put b.dst (bval P b)) h2 h
    unfold plainBuild at h1
    split at h1
    case h_2 => cases h1
    case h_1 t parts ho =>
      rw [Bool.and_eq_true, Bool.and_eq_true] at h1
      have e := parts_cval a parts h1.1.2
      refine wpList_build (Option.isNone_iff_eq_none.1 h1.1.1) t parts ho (by rw [e]; exact h1.2) ?_
      rw [e]
      have : bval P b = .agg ((P.built t (parts.map fun (i, x) => (i, cval x)).toList).getD #[]) := by unfold bval; rw [ho]
      rw [this] at ih
      exact ih

noncomputable def specOps : List Oper := (Go.Proofs.YtjdpmjpfhcdcfaaW.PrintLast.opsOf Try.f30 1).toList
noncomputable def specA (a : Act) : Act := (specOps.take 54).foldl (fun a b => a.put b.dst (bval Try.prog b)) a
theorem specOps_plain : (specOps.take 54).all (plainBuild Try.prog) = true := by kernel_rfl
noncomputable def specB : Oper := (specOps.drop 54).headD ⟨none, .move (.const undef), 0, "", #[], none⟩
noncomputable def specC : Oper := (specOps.drop 55).headD ⟨none, .move (.const undef), 0, "", #[], none⟩
noncomputable def specParts : Array (Nat × Operand) := match specB.op with | .buildSlice _ _ p => p | _ => #[]
theorem specOps_split : (Go.Proofs.YtjdpmjpfhcdcfaaW.PrintLast.opsOf Try.f30 1).toList = specOps.take 54 ++ [specB, specC] := by kernel_rfl
theorem wp_region_as {P : Program} {id : Nat} {ops : Array Oper} {Q : Exit → Act → World → Prop} {a : Act} {w : World} (l : List Oper) (e : ops.toList = l) (h : wpList P ops Q l a w) : (Code.region id ops false).wp P Q a w := by
  subst e; exact wp_region_list h
/-- the frame at the start -/
noncomputable def specA0 : Act := ((⟨Array.replicate 56 undef, []⟩ : Act).put (some 0) (.slice none 0 0))
noncomputable def specCells : Array Value := (Try.prog.builtSlice 26 54 (specParts.map fun (i, x) => (i, (specA specA0).eval x)).toList).getD #[]
theorem specCells_eq : Try.prog.builtSlice 26 54 (specParts.map fun (i, x) => (i, (specA specA0).eval x)).toList = some specCells := by kernel_rfl
theorem specB_op : specB.op = .buildSlice 49 54 specParts := by kernel_rfl
theorem specB_dst : specB.dst = some 55 := by kernel_rfl
theorem specB_guard : specB.guard = none := by kernel_rfl
theorem specC_eq : specC = ⟨some 0, .assign (.tmp 55), 49, "cmd.go:13", specC.after, none⟩ := by kernel_rfl
set_option maxRecDepth 100000 in
set_option maxHeartbeats 4000000 in
theorem specs_calls (w : World) : Calls Try.prog 30 #[] w fun e w' => e = .returned (.slice (some ⟨w.heap.size, 0, none⟩) 54 54) ∧ w' = w.alloc (.cells specCells 26) := by
  go_enter Try.func30, Try.ntmps30
  refine wp_seq_k fun K hK => ?_
  refine wp_region_lit ?_
  refine wpList_plain rfl fun K1 hK1 => ?_
  go_step
  refine hK1 _ _ ?_
  refine wpList_nil ?_
  refine hK _ _ ?_
  clear hK1 hK
  refine wp_seq_k fun K hK => ?_
  refine wp_region_as (specOps.take 54 ++ [specB, specC]) (by kernel_rfl) ?_
  refine wpList_builds _ _ specOps_plain ?_
  refine Great.wpList_buildSliceTo specB_guard 49 26 54 specParts specB_op w.heap.size rfl (some 55) specB_dst (by kernel_rfl) specCells (by kernel_rfl) ?_
  rw [specC_eq]
  refine wpList_plain rfl fun K1 hK1 => ?_
  generalize hA : List.foldl _ _ _ = A
  have hs : A.tmps.size = 56 := by rw [← hA]; kernel_rfl
  have hd : A.defers = [] := by rw [← hA]; kernel_rfl
  clear hA
  refine BigFrame.wp_assign (.tmp 55) rfl ?_
  rw [Act.eval_put_same A 55 _ (by omega)]
  refine hK1 _ _ (wpList_nil (hK _ _ ?_))
  clear hK1 hK
  generalize hB : Act.put _ _ _ = B
  have e0 : B.eval (.tmp 0) = .slice (some ⟨w.heap.size, 0, none⟩) 54 54 := by rw [← hB]; exact Act.eval_put_same _ 0 _ (by rw [Act.size_put]; omega)
  have hd' : B.defers = [] := by rw [← hB]; exact hd
  clear hB
  obtain ⟨ts, ds⟩ := B
  obtain rfl : ds = [] := hd'
  have e1 : ts.getD 0 undef = .slice (some ⟨w.heap.size, 0, none⟩) 54 54 := e0
  refine wp_ret ?_
  refine bodyPost_ret (results_tmp rfl _ _ _) rfl ?_
  exact ⟨congrArg _ e1, rfl⟩
end Go.Proofs.Ytjdpmjpfhcdcfaa
