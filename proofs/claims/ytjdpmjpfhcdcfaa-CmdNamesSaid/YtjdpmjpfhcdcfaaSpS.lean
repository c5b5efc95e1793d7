/- ref.Specs: what it hands back. No conditions. -/
import Derived.Test.YtjdpmjpfhcdcfaaSpR
namespace Go.Proofs.Ytjdpmjpfhcdcfaa
open Go.RowKit Go.Cav
attribute [local go_sem] Oper.semAt_some

noncomputable def rOps : List Oper := (Go.Proofs.YtjdpmjpfhcdcfaaW.PrintLast.opsOf Try.f24 1).toList
theorem rOps_ok : (rOps.take 54).all okCall = true := by kernel_rfl
noncomputable def rA (a : Act) : Act := (rOps.take 54).foldl (fun a b => a.put b.dst (valOf b)) a
noncomputable def rB : Oper := (rOps.drop 54).headD ⟨none, .move (.const undef), 0, "", #[], none⟩
noncomputable def rC : Oper := (rOps.drop 55).headD ⟨none, .move (.const undef), 0, "", #[], none⟩
noncomputable def rParts : Array (Nat × Operand) := match rB.op with | .buildSlice _ _ p => p | _ => #[]
theorem rOps_split : (Go.Proofs.YtjdpmjpfhcdcfaaW.PrintLast.opsOf Try.f24 1).toList = rOps.take 54 ++ [rB, rC] := by kernel_rfl
noncomputable def rA0 : Act := ((⟨Array.replicate 56 undef, []⟩ : Act).put (some 0) (.slice none 0 0))
theorem rCells_eq : Try.prog.builtSlice 26 54 (rParts.map fun (i, x) => (i, (rA rA0).eval x)).toList = some specCells := by kernel_rfl
theorem rB_op : rB.op = .buildSlice 49 54 rParts := by kernel_rfl
theorem rB_dst : rB.dst = some 55 := by kernel_rfl
theorem rB_guard : rB.guard = none := by kernel_rfl
theorem rC_eq : rC = ⟨some 0, .assign (.tmp 55), 49, "ref.go:513", rC.after, none⟩ := by kernel_rfl
set_option maxRecDepth 100000 in
set_option maxHeartbeats 4000000 in
theorem refSpecs_calls (w : World) : Calls Try.prog 24 #[] w fun e w' => ∃ b, e = .returned (.slice (some ⟨b, 0, none⟩) 54 54) ∧ w.heap.size ≤ b ∧ w'.heap[b]? = some (.cells specCells 26 (0, 0)) ∧ Below w.heap.size w w' := by
  go_enter Try.func24, Try.ntmps24
  refine wp_seq_k fun K hK => ?_
  refine wp_region_lit ?_
  refine wpList_plain rfl fun K1 hK1 => ?_
  go_step
  refine hK1 _ _ ?_
  refine wpList_nil ?_
  refine hK _ _ ?_
  clear hK1 hK
  refine wp_seq_k fun K hK => ?_
  refine wp_region_as (rOps.take 54 ++ [rB, rC]) (by kernel_rfl) ?_
  refine wpList_specCalls w _ _ w (Below.refl _ _) rOps_ok fun w1 hw1 => ?_
  refine Great.wpList_buildSliceTo rB_guard 49 26 54 rParts rB_op w1.heap.size rfl (some 55) rB_dst (by kernel_rfl) specCells (by kernel_rfl) ?_
  rw [rC_eq]
  refine wpList_plain rfl fun K1 hK1 => ?_
  generalize hA : List.foldl _ _ _ = A
  have hs : A.tmps.size = 56 := by rw [← hA]; kernel_rfl
  have hd : A.defers = [] := by rw [← hA]; kernel_rfl
  clear hA
  refine BigFrame.wp_assign (.tmp 55) rfl ?_
  rw [Act.eval_put_same A 55 _ (by omega)]
  refine hK1 _ _ (wpList_nil (hK _ _ ?_))
  clear hK1 hK
  generalize hB : Act.put _ _ _ = B
  have e0 : B.eval (.tmp 0) = .slice (some ⟨w1.heap.size, 0, none⟩) 54 54 := by rw [← hB]; exact Act.eval_put_same _ 0 _ (by rw [Act.size_put]; omega)
  have hd' : B.defers = [] := by rw [← hB]; exact hd
  clear hB
  obtain ⟨ts, ds⟩ := B
  obtain rfl : ds = [] := hd'
  have e1 : ts.getD 0 undef = .slice (some ⟨w1.heap.size, 0, none⟩) 54 54 := e0
  refine wp_ret ?_
  refine bodyPost_ret (results_tmp rfl _ _ _) rfl ?_
  exact ⟨w1.heap.size, congrArg _ e1, hw1.size, heap_alloc_new w1 _, hw1.alloc hw1.size _⟩
end Go.Proofs.Ytjdpmjpfhcdcfaa
