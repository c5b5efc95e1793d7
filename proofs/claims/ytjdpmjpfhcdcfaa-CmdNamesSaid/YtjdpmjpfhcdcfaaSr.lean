/- What the iterator 'all' hands on. No conditions. -/
import Derived.Test.YtjdpmjpfhcdcfaaSq
namespace Go.Proofs.Ytjdpmjpfhcdcfaa
open Go.RowKit Go.Shelf Go.Cav
attribute [local go_sem] Oper.semAt_some

theorem all_any (w : World) : Calls Try.prog 23 #[] w fun e w' => e = .returned (.func (.func 29) #[] #[]) ∧ w' = w := by
  go_enter Try.func23, Try.ntmps23
  go_wp2
  go_ret
  exact ⟨rfl, rfl⟩

set_option maxRecDepth 100000 in
set_option maxHeartbeats 4000000 in
theorem all1_in (n : Nat) (hn : 1 ≤ n) (l B : Nat) (T : Nat → Prop) (J Jx : List SpecV → World → Prop) (W : World) (hTn : ∀ k, W.heap.size ≤ k → ¬ T k) (hA : AbidesFrom W.heap.size J)
    (hY : ∀ pre x W, J pre W → pre.length < specL.length → YieldAt Fence.wide (n - 1) Try.prog l #[.agg (encS x).toArray] W fun e W' =>
      (e = .returned (.bool true) ∧ J (pre ++ [x]) W' ∧ StirC B T W W') ∨ (e = .returned (.bool false) ∧ Jx (pre ++ [x]) W')) (h0 : J [] W) :
    CallsIn Fence.wide n Try.prog 29 #[.func (.yield l) #[] #[]] W fun e W' => (∃ v, e = .returned v) ∧
      ((∃ ys, ys = specL ∧ J ys W') ∨ (∃ pre, pre <+: specL ∧ Jx pre W')) := by
  refine callsIn_of_wp Try.func29 rfl trivial ?_ rfl
  simp only [Try.ntmps29, List.size_toArray, List.length_cons, List.length_nil, Nat.reduceAdd, Nat.reduceSub, Array.replicate_succ, Array.replicate_zero, List.push_toArray, List.append_toArray, List.nil_append, List.cons_append]
  gi_wp2_with fail
  refine ⟨trivial, (callsIn_wide.2 (specs_at W)).mono ?_⟩
  rintro e W1 ⟨ad, rfl, hadb, hgr, hbl, hcs⟩
  have hJ1 := hA _ _ _ none h0 hgr (fun r e => by cases e)
  have hb : ¬ T ad.block := by rw [hadb]; exact hTn _ (Nat.le_refl _)
  have hs1 : W.heap.size ≤ W1.heap.size := hbl.size
  clear hadb hgr hbl
  gi_wp2_with fail
  gi_loopw [6] (fun i wr => ∃ k : Nat, k ≤ 54 ∧ i = .int .i64 k ∧ J (specL.take k) wr ∧ StirC B T W1 wr)
    (fun i _ => 54 - (intOf i).toNat)
  case atStart => exact ⟨0, Nat.zero_le _, rfl, by simpa using hJ1, StirC.refl _ _ _⟩
  case round =>
    obtain ⟨k, hk, rfl, hJs, hnx⟩ := hrel
    by_cases hlt : k < 54
    · obtain ⟨x, hx⟩ : ∃ x, specL[k]? = some x := ⟨_, List.getElem?_eq_getElem (by rw [specL_length]; omega)⟩
      obtain ⟨c0, c1, c2, c3, c4, c5, c6⟩ := hcs k x hx
      have d0 := hnx.cell c0 (by rw [add_block]; exact hb)
      have d1 := hnx.cell c1 (by show ¬ T _; rw [add_block]; exact hb)
      have d2 := hnx.cell c2 (by show ¬ T _; rw [add_block]; exact hb)
      have d3 := hnx.cell c3 (by show ¬ T _; rw [add_block]; exact hb)
      have d4 := hnx.cell c4 (by show ¬ T _; rw [add_block]; exact hb)
      have d5 := hnx.cell c5 (by show ¬ T _; rw [add_block]; exact hb)
      have d6 := hnx.cell c6 (by show ¬ T _; rw [add_block]; exact hb)
      clear c0 c1 c2 c3 c4 c5 c6
      have hJ1 := hA _ _ (wr.alloc (.cells (encS x).toArray 26)) none hJs (Stir.grownBy ((Stir.refl _ wr).alloc _)) (fun r e => by cases e)
      obtain ⟨fn, tmps, assign, body, hy, hR⟩ := hY _ x _ hJ1 (by rw [List.length_take, specL_length]; omega)
      have htk : specL.take (k + 1) = specL.take k ++ [x] := by rw [List.take_add_one, hx]; rfl
      have HT := Lib.hid htk
      clear htk hx hcs
      obtain ⟨s0, s1, s2, s3, s4, s5, s6⟩ := x
      simp only [encS] at hy hR
      dsimp only at d0 d1 d2 d3 d4 d5 d6
      gi_wp2_with fail
      refine hR.mono ?_
      rintro e W3 (⟨rfl, hJ3, hk3⟩ | ⟨rfl, hJx3⟩)
      · gi_wp2
        go_roundw
        case rel => exact ⟨k + 1, by omega, by simp, by rw [HT.out]; exact hJ3, (hnx.alloc _).trans hk3⟩
        case measure => simp [intOf]; omega
      · gi_wp2
        refine bodyPost_ret (results_none rfl _ _ _) rfl ?_
        exact ⟨⟨_, rfl⟩, .inr ⟨_, by rw [← HT.out]; exact List.take_prefix _ _, hJx3⟩⟩
    · obtain rfl : k = 54 := by omega
      gi_wp2
      go_end0
      exact ⟨⟨_, rfl⟩, .inl ⟨_, rfl, by rw [List.take_of_length_le (by rw [specL_length]; omega)] at hJs; exact hJs⟩⟩

theorem all_stops (n : Nat) (hn : 1 ≤ n) (B : Nat) (T : Nat → Prop) (w : World) (hT : ∀ k, w.heap.size ≤ k → ¬ T k) :
    IterC Fence.wide n Try.prog 29 #[] (fun x : SpecV => #[.agg (encS x).toArray]) B T specL w := fun l J Jx W hW hA _ hY h0 =>
  all1_in n hn l B T J Jx W (fun k h => hT k (Nat.le_trans hW.size h)) hA hY h0
end Go.Proofs.Ytjdpmjpfhcdcfaa
