/- spans.said: what the loop gathers. Condition: a bound on the list's length. -/
import Derived.Test.YtnlakdpfkgjdaaaDoorPSp
import Derived.Test.YtnlakdpfkgjdaaaDoorCavA
namespace Go.Proofs.YtnlakdpfkgjdaaaDoor.G
open Go.RowKit Go.Cav Go.Proofs.YtnlakdpfkgjdaaaDoorW.PrintWords Go.Proofs.YtnlakdpfkgjdaaaDoorW.PrintLast Go.Proofs.YtnlakdpfkgjdaaaDoorW.PrintMore
attribute [local go_sem] Oper.semAt_some
attribute [local go_sem] max2_int min2_int max_two min_two
theorem cutS_snoc (l : List S31) (s : S31) : cutS (l ++ [s]) = if okS s = true then cutS l ++ [clipS s] else cutS l := by
  unfold cutS
  rw [List.filter_append, List.map_append]
  by_cases h : okS s = true
  · rw [if_pos h, List.filter_cons_of_pos h]; rfl
  · rw [if_neg h, List.filter_cons_of_neg h]; simp
theorem cutS_len (l : List S31) : (cutS l).length ≤ l.length := by
  unfold cutS; rw [List.length_map]; exact List.length_filter_le _ _
set_option maxRecDepth 100000 in
set_option maxHeartbeats 4000000 in
theorem said_calls (A0 : Option Addr) (c0 : Nat) (l0 : List S31) (w : World) (hr0 : Kd.C k31 w A0 l0.length l0) (h0 : l0.length ≤ 1000000000) (srt : List S31 → List S31)
    (hsort : ∀ (v : Value) (xs : List S31) (w1 : World), xs.length ≤ 1000000000 → Below w.heap.size w w1 → Kd.R k31 31 w1 w.heap.size (fun _ => True) v xs →
      Calls Tryd.prog 46 #[v, .func (.func 47) #[] #[]] w1 fun e w' => e = .returned (.tuple #[]) ∧ Kd.V k31 31 w' w.heap.size (fun k_ => w.heap.size ≤ k_) v (srt xs) ∧ Below w.heap.size w w') :
    Calls Tryd.prog 32 #[.slice A0 l0.length c0] w fun e w' => ∃ v0_ : Value, e = .returned (v0_) ∧ Kd.V k31 31 w' w.heap.size (fun k_ => (w.heap.size ≤ k_)) v0_ (srt (cutS l0)) ∧ Below w.heap.size w w' := by
  have HR0 := Lib.hid hr0
  have HS := Lib.hid hsort
  clear hr0 hsort
  go_enter Tryd.func32, Tryd.ntmps32
  go_wp2
  go_loopw [3, 8] (fun o i wr => ∃ (j : Nat), j ≤ l0.length ∧ i = .int .i64 (j : Int) ∧ Hid (Kd.R k31 31 wr w.heap.size (fun _ => True) o (cutS (l0.take j))) ∧ Hid (Below w.heap.size w wr)) (fun _ i _ => l0.length - (intOf i).toNat)
  case atStart => exact ⟨0, by omega, rfl, Lib.hid (Kd.R_nil _ _ _ _ _), Lib.hid (Below.refl _ _)⟩
  case round =>
    obtain ⟨j, hj, rfl, HO, HB⟩ := hrel
    by_cases hlt : j < l0.length
    · obtain ⟨ad, rfl, e0, e1⟩ := at_T31 HR0.out (j : Int) (by omega) (by omega)
      rw [Int.toNat_natCast] at e0 e1
      have hx : rd_T31 l0 (j : Int) = l0[j] := by unfold rd_T31; simp [hlt]
      rw [hx] at e0 e1
      replace e0 := (Stir.of_below HB.out (fun _ => False)).cell e0 (fun e => e)
      replace e1 := (Stir.of_below HB.out (fun _ => False)).cell e1 (fun e => e)
      have hc : cutS (l0.take (j + 1)) = if okS l0[j] = true then cutS (l0.take j) ++ [clipS l0[j]] else cutS (l0.take j) := by
        rw [List.take_succ_eq_append_getElem hlt, cutS_snoc]
      have HC := Lib.hid hc
      have hltz : (j : Int) < (l0.length : Int) := by omega
      clear hc hx
      generalize l0[j] = s at e0 e1 HC
      obtain ⟨s0, s1⟩ := s
      have hcl : ∃ a0 a1, (if s0 < 0 then (0 : Int) else s0) = a0 ∧ (if 16383 < s1 then (16383 : Int) else s1) = a1 ∧ clipS ⟨s0, s1⟩ = ⟨a0, a1⟩ := by
        refine ⟨_, _, rfl, rfl, ?_⟩
        unfold clipS
        congr 1
        · show max s0 0 = _
          split <;> omega
        · show min s1 16383 = _
          split <;> omega
      obtain ⟨a0, a1, ha0, ha1, hcl⟩ := hcl
      have hok : okS ⟨s0, s1⟩ = decide (a0 ≤ a1) := by unfold okS; rw [hcl]
      rw [hok, hcl] at HC
      dsimp only at e0 e1
      clear hcl hok
      by_cases hle : a0 ≤ a1
      · have hd : decide (a0 ≤ a1) = true := decide_eq_true hle
        rw [if_pos hd] at HC
        have HN := Lib.hid (cutS_len (l0.take j))
        have hb1 : Below w.heap.size w (wr.alloc (.cells #[.int .i64 a0, .int .i64 a1] 31)) := HB.out.alloc HB.out.size _
        have hbk : (wr.alloc (.cells #[.int .i64 a0, .int .i64 a1] 31)).heap[wr.heap.size]? = some (.cells #[.int .i64 a0, .int .i64 a1] 31 (0, 0)) := heap_alloc_new wr _
        have hR1 := Kd.R_alloc HO.out (.cells #[.int .i64 a0, .int .i64 a1] 31)
        have HB1 := Lib.hid hb1
        have HBK := Lib.hid hbk
        have HR1 := Lib.hid hR1
        clear hb1 hbk hR1
        go_upto_region 7 with fail
        clear e0 e1
        generalize wr.alloc (.cells #[.int .i64 a0, .int .i64 a1] 31) = wq at HB1 HBK HR1 ⊢
        have c0 : wq.cell? ⟨wr.heap.size, 0, none⟩ = some (.int .i64 a0) := (cell_of_row wq _ 0 _ _ _ HBK.out).trans rfl
        have c1 : wq.cell? ⟨wr.heap.size, 1, none⟩ = some (.int .i64 a1) := (cell_of_row wq _ 1 _ _ _ HBK.out).trans rfl
        go_wp2_with (at_builtin; go_loud (refine Kd.R_append k31 (w0 := w) w.heap.size rfl (.tmp 24) (.tmp 26) 23 31 (.agg #[(.int .i64 0), (.int .i64 0)]) 16 rfl Tryd.underlying23 info31 rfl (by decide) (by omega) _ (cutS (l0.take j)) (⟨a0, a1⟩ : S31) [.int .i64 a0, .int .i64 a1] (fun _ => True) (fun _ => False) rfl rfl (k31_mkM _ _ _ (⟨a0, a1⟩ : S31)) (fun _ hk => hk.elim) (fun _ _ => trivial) HR1.out HB1.out HB1.out.size ?aL ?_; (case aL => have := HN.out; rw [List.length_take] at this; omega)))
        intro v1 w1 hR hB _ _
        have hR2 := Lib.hid hR
        have hB2 := Lib.hid hB
        clear hR hB
        go_wp2
        exact ⟨⟨j + 1, by omega, by simp, Lib.hid (by rw [HC.out]; exact hR2.out), Lib.hid hB2.out⟩, by simp [intOf]; omega⟩
      · have hd : ¬ decide (a0 ≤ a1) = true := by simpa using hle
        rw [if_neg hd] at HC
        have hb1 : Below w.heap.size w (wr.alloc (.cells #[.int .i64 a0, .int .i64 a1] 31)) := HB.out.alloc HB.out.size _
        have hR1 := Kd.R_alloc HO.out (.cells #[.int .i64 a0, .int .i64 a1] 31)
        have HB1 := Lib.hid hb1
        have HR1 := Lib.hid hR1
        have hle2 : a1 < a0 := by omega
        clear hb1 hR1 hd hle
        go_wp2
        exact ⟨⟨j + 1, by omega, by simp, Lib.hid (by rw [HC.out]; exact HR1.out), Lib.hid HB1.out⟩, by simp [intOf]; omega⟩
    · have hltz : ¬ (j : Int) < (l0.length : Int) := by omega
      obtain rfl : j = l0.length := by omega
      have hO := HO.out
      rw [List.take_length] at hO
      have hS := HS.out _ _ wr (Nat.le_trans (cutS_len l0) h0) HB.out hO
      clear hO HO
      go_wp2_with fail
      refine hS.mono ?_
      rintro e w2 ⟨rfl, hV, hB2⟩
      have HV := Lib.hid hV
      have HB2 := Lib.hid hB2
      clear hV hB2 HS
      go_wp2
      go_ret
      exact ⟨_, rfl, HV.out, HB2.out⟩
end Go.Proofs.YtnlakdpfkgjdaaaDoor.G
