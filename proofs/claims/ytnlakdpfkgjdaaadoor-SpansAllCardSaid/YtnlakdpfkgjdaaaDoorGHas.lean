/- spans.Has over the library's ContainsFunc. Condition: a bound on the list's length. -/
import Derived.Test.YtnlakdpfkgjdaaaDoorGSaid
namespace Go.Proofs.YtnlakdpfkgjdaaaDoor.G
open Go.RowKit Go.Cav Go.Proofs.YtnlakdpfkgjdaaaDoorW.PrintWords Go.Proofs.YtnlakdpfkgjdaaaDoorW.PrintLast Go.Proofs.YtnlakdpfkgjdaaaDoorW.PrintMore
attribute [local go_sem] Oper.semAt_some
/-- the first place at which p holds, or -1 -/
def idxI {α : Type} (p : α → Bool) (l : List α) : Int := match l.findIdx? p with
  | some i => (i : Int)
  | none => -1
theorem idxI_hit {α : Type} (p : α → Bool) (l : List α) (j : Nat) (x : α) (hx : l[j]? = some x) (hp : p x = true) (hn : ∀ i, i < j → ∀ y, l[i]? = some y → p y = false) : idxI p l = (j : Int) := by
  obtain ⟨hj, rfl⟩ := List.getElem?_eq_some_iff.1 hx
  have h : l.findIdx? p = some j := List.findIdx?_eq_some_iff_getElem.2 ⟨hj, hp, fun i hi => by simpa using hn i hi l[i] (List.getElem?_eq_getElem (by omega))⟩
  unfold idxI; rw [h]
theorem idxI_miss {α : Type} (p : α → Bool) (l : List α) (hn : ∀ i, i < l.length → ∀ y, l[i]? = some y → p y = false) : idxI p l = -1 := by
  have h : l.findIdx? p = none := List.findIdx?_eq_none_iff.2 fun x hx => by
    obtain ⟨i, hi, rfl⟩ := List.mem_iff_getElem.1 hx
    exact hn i hi _ (List.getElem?_eq_getElem hi)
  unfold idxI; rw [h]
theorem idxI_any {α : Type} (p : α → Bool) (l : List α) : decide (0 ≤ idxI p l) = l.any p := by
  unfold idxI
  cases h : l.findIdx? p with
  | none =>
    have h1 := List.findIdx?_eq_none_iff.1 h
    have : l.any p = false := by rw [List.any_eq_false]; intro x hx e; rw [h1 x hx] at e; cases e
    rw [this]; rfl
  | some i =>
    obtain ⟨hi, hp, _⟩ := List.findIdx?_eq_some_iff_getElem.1 h
    have : l.any p = true := List.any_eq_true.2 ⟨_, List.getElem_mem hi, hp⟩
    rw [this]; simp
set_option maxRecDepth 100000 in
set_option maxHeartbeats 4000000 in
theorem indexF_spans (g : Nat) (lb : Array Value) (p : S31 → Bool) (eg : ∀ args w, (callFunc g args).run Tryd.prog w = .ok (.enter g args) w) (A : Option Addr) (c : Nat) (l : List S31) (w : World) (hs : l.length ≤ 9000000000000000000)
    (hp : ∀ x : S31, ∀ w', Below w.heap.size w w' → Calls Tryd.prog g (#[.agg #[.int .i64 x.f0, .int .i64 x.f1]] ++ lb) w' fun e w'' => e = .returned (.bool (p x)) ∧ Below w'.heap.size w' w'')
    (hr : Kd.C k31 w A l.length l) :
    Calls Tryd.prog 49 #[.slice A l.length c, .func (.func g) #[] lb] w fun e w' => e = .returned (.int .i64 (idxI p l)) ∧ Below w.heap.size w w' := by
  have HR := Lib.hid hr
  have HP := Lib.hid hp
  clear hr hp
  go_enter Tryd.func49, Tryd.ntmps49
  go_wp2
  go_loopw [8] (fun i wr => ∃ j : Nat, j ≤ l.length ∧ i = .int .i64 (j : Int) ∧ Below w.heap.size w wr ∧ Hid (∀ i, i < j → ∀ y, l[i]? = some y → p y = false)) (fun i _ => l.length - (intOf i).toNat)
  case atStart => exact ⟨0, by omega, rfl, Below.refl _ _, Lib.hid (fun i h => absurd h (Nat.not_lt_zero _))⟩
  case round =>
    obtain ⟨j, hj, rfl, hB, hn⟩ := hrel
    by_cases hlt : j < l.length
    · obtain ⟨ad, rfl, e0, e1⟩ := at_T31 HR.out (j : Int) (by omega) (by omega)
      rw [Int.toNat_natCast] at e0 e1
      have hk2 : rd_T31 l (j : Int) = l[j] := by unfold rd_T31; simp [hlt]
      rw [hk2] at e0 e1
      replace e0 := (Stir.of_below hB (fun _ => False)).cell e0 (fun e => e)
      replace e1 := (Stir.of_below hB (fun _ => False)).cell e1 (fun e => e)
      have hx : l[j]? = some l[j] := List.getElem?_eq_getElem hlt
      have hcall := HP.out l[j] _ hB
      have HX := Lib.hid hx
      have HB := Lib.hid hB
      clear hx hB hk2
      have hltz : (j : Int) < (l.length : Int) := by omega
      generalize l[j] = x at e0 e1 hcall HX
      cases hq : p x with
      | true =>
        rw [hq] at hcall
        have HQ := Lib.hid hq
        clear hq
        go_wp2_with (go_at_fn g; refine hcall.mono ?_; rintro e w' ⟨rfl, hb⟩)
        go_ret
        exact ⟨by rw [idxI_hit p l j x HX.out HQ.out hn.out]; rfl, HB.out.trans (hb.mono HB.out.size)⟩
      | false =>
        rw [hq] at hcall
        have HQ := Lib.hid hq
        clear hq
        go_wp2_with (go_at_fn g; refine hcall.mono ?_; rintro e w' ⟨rfl, hb⟩)
        go_roundw
        case rel =>
          refine ⟨j + 1, by omega, by simp, HB.out.trans (hb.mono HB.out.size), Lib.hid (fun i hi y hy => ?_)⟩
          by_cases e : i = j
          · subst e; rw [HX.out] at hy; cases hy; exact HQ.out
          · exact hn.out i (by omega) y hy
        case measure => simp [intOf]; omega
    · have hltz : ¬ (j : Int) < (l.length : Int) := by omega
      obtain rfl : j = l.length := by omega
      have HB := Lib.hid hB
      clear hB
      go_wp2
      go_ret
      exact ⟨by rw [idxI_miss p l hn.out]; rfl, HB.out⟩
set_option maxRecDepth 100000 in
set_option maxHeartbeats 4000000 in
theorem containsF_spans (g : Nat) (lb : Array Value) (p : S31 → Bool) (eg : ∀ args w, (callFunc g args).run Tryd.prog w = .ok (.enter g args) w) (A : Option Addr) (c : Nat) (l : List S31) (w : World) (hs : l.length ≤ 9000000000000000000)
    (hp : ∀ x : S31, ∀ w', Below w.heap.size w w' → Calls Tryd.prog g (#[.agg #[.int .i64 x.f0, .int .i64 x.f1]] ++ lb) w' fun e w'' => e = .returned (.bool (p x)) ∧ Below w'.heap.size w' w'')
    (hr : Kd.C k31 w A l.length l) :
    Calls Tryd.prog 33 #[.slice A l.length c, .func (.func g) #[] lb] w fun e w' => e = .returned (.bool (l.any p)) ∧ Below w.heap.size w w' := by
  have hI := indexF_spans g lb p eg A c l w hs hp hr
  have hA := idxI_any p l
  generalize idxI p l = n at hI hA
  have HA := Lib.hid hA
  clear hr hp hA
  go_enter Tryd.func33, Tryd.ntmps33
  go_wp2_with (go_at_call 49; refine hI.mono ?_; rintro e w1 ⟨rfl, hb⟩)
  go_ret
  exact ⟨by rw [← HA.out]; rfl, hb⟩
set_option maxRecDepth 100000 in
set_option maxHeartbeats 4000000 in
theorem has1_calls (s : S31) (n : Int) (bx : Addr) (w : World) (hx : w.cell? bx = some (.int .i64 n)) :
    Calls Tryd.prog 34 #[.agg #[.int .i64 s.f0, .int .i64 s.f1], .pointer (some bx)] w fun e w' => e = .returned (.bool (decide (s.f0 ≤ n) && decide (n ≤ s.f1))) ∧ Below w.heap.size w w' := by
  obtain ⟨x0, x1⟩ := s
  have hx2 := ((Below.refl w.heap.size w).alloc (Nat.le_refl _) (.cells #[.int .i64 x0, .int .i64 x1] 31))
  have hx3 := (Stir.of_below hx2 (fun _ => False)).cell hx (fun e => e)
  have HB := Lib.hid hx2
  clear hx2
  by_cases h : x0 ≤ n
  · have hd : decide (x0 ≤ n) = true := decide_eq_true h
    go_enter Tryd.func34, Tryd.ntmps34
    go_wp2
    go_ret
    exact ⟨by simp [hd], HB.out⟩
  · have hd : decide (x0 ≤ n) = false := decide_eq_false h
    go_enter Tryd.func34, Tryd.ntmps34
    go_wp2
    go_ret
    exact ⟨by simp, HB.out⟩
set_option maxRecDepth 100000 in
set_option maxHeartbeats 4000000 in
theorem has_any (A0 : Option Addr) (c0 : Nat) (l0 : List S31) (n : Int) (w : World) (hr0 : Kd.C k31 w A0 l0.length l0) (h0 : l0.length ≤ 1000000000) :
    Calls Tryd.prog 18 #[.slice A0 l0.length c0, .int .i64 n] w fun e w' => e = .returned (.bool (sayS l0 n)) ∧ Below w.heap.size w w' := by
  have hb0 : Below w.heap.size w (w.alloc (.cells #[.int .i64 n] 3)) := (Below.refl w.heap.size w).alloc (Nat.le_refl _) _
  have hnew : (w.alloc (.cells #[.int .i64 n] 3)).cell? ⟨w.heap.size, 0, none⟩ = some (.int .i64 n) := (cell_of_row _ _ 0 _ _ _ (heap_alloc_new w _)).trans rfl
  have hS := said_any A0 c0 l0 _ (Kd.C_below hr0 hb0) h0
  have hv : sayS l0 n = (pdqS (cutS l0)).any (fun s => decide (s.f0 ≤ n) && decide (n ≤ s.f1)) := by
    rw [← has_cut]
    exact has_mem _ _ (fun x => ((pdqS_spec (cutS l0)).2.1 x).symm) n
  have hlen : (pdqS (cutS l0)).length ≤ 1000000000 := by rw [(pdqS_spec (cutS l0)).1]; exact Nat.le_trans (cutS_len l0) h0
  generalize pdqS (cutS l0) = d at hS hv hlen
  have HV := Lib.hid hv
  have HB0 := Lib.hid hb0
  have HN := Lib.hid hnew
  clear hr0 h0 hv hb0 hnew
  go_enter Tryd.func18, Tryd.ntmps18
  go_wp2_with fail
  refine hS.mono ?_
  rintro e w1 ⟨v1, rfl, hVV, hb1⟩
  have hc1 := (Stir.of_below hb1 (fun _ => False)).cell HN.out (fun e => e)
  obtain ⟨A1, c1, rfl⟩ := Kd.V_slice hVV
  have hC := containsF_spans 34 #[.pointer (some ⟨w.heap.size, 0, none⟩)] _ (enters_of Tryd.func34 (by kernel_rfl) rfl) A1 c1 d w1 (by omega)
    (fun x w2 h2 => has1_calls x n ⟨w.heap.size, 0, none⟩ w2 ((Stir.of_below h2 (fun _ => False)).cell hc1 (fun e => e))) (Kd.V_reads' hVV).2.2
  have HB1 := Lib.hid (HB0.out.trans (hb1.mono HB0.out.size))
  clear hS hVV hb1 HB0 HN
  go_wp2_with fail
  refine hC.mono ?_
  rintro e w2 ⟨rfl, hb2⟩
  have HB2 := Lib.hid (HB1.out.trans (hb2.mono HB1.out.size))
  clear hC hb2 HB1 hc1
  go_wp2
  go_ret
  exact ⟨by rw [HV.out]; rfl, HB2.out⟩
def spans_Has.f (l0 : List S31) (a1 : Int) : Option Bool := if l0.length ≤ 1000000000 then some (sayS l0 a1) else none
theorem spans_Has.calls (A0 : Option Addr) (c0 : Nat) (l0 : List S31) (a1 : Int) (r : Bool) (w : World) (hr0 : Kd.C k31 w A0 l0.length l0) (_hc0 : l0.length ≤ c0) (h : spans_Has.f l0 a1 = some r) :
    Calls Tryd.prog 18 #[.slice A0 l0.length c0, .int .i64 a1] w fun e w' => e = .returned (.bool r) ∧ Below w.heap.size w w' := by
  unfold spans_Has.f at h
  split at h
  case isFalse => cases h
  case isTrue hb =>
    obtain rfl := Option.some.inj h
    exact has_any A0 c0 l0 a1 w hr0 hb
end Go.Proofs.YtnlakdpfkgjdaaaDoor.G
