/- slices.IndexFunc over moves, the predicate of route.Decide; whose a slot is. Conditions: none but what a slice's length bears. -/
import Derived.Test.YtijploopgmbhfaaDoorRmB
import Derived.Test.YtijploopgmbhfaaDoorGClOf
namespace Go.Proofs.YtijploopgmbhfaaDoor.G
open Go.RowKit Go.Cav Go.Proofs.YtijploopgmbhfaaDoorW.PrintWords Go.Proofs.YtijploopgmbhfaaDoorW.PrintLast Go.Proofs.YtijploopgmbhfaaDoorW.PrintMore
attribute [local go_sem] Oper.semAt_some
/-- whose a slot is -/
def ofP (l : List S64) (s : Int) : Int × Int × Bool :=
  match l.find? (fun c => decide (c.f0 ≤ s) && decide (s ≤ c.f1)) with
  | some c => (c.f2, c.f3, true)
  | none => (0, 0, false)
theorem ofP_eq (l : List S64) (s : Int) (hl : l.length ≤ 9000000000000000000) : claims_Of.f (l.length + 1) l s = some (ofP l s) := by
  unfold claims_Of.f ofP
  suffices h : ∀ n j, l.length - j = n → j ≤ l.length → claims_Of.l0 (n + 1) s l (l.length : Int) (j : Int) = some (match (l.drop j).find? (fun c => decide (c.f0 ≤ s) && decide (s ≤ c.f1)) with
      | some c => (c.f2, c.f3, true)
      | none => (0, 0, false)) from h l.length 0 (by omega) (by omega)
  intro n
  induction n with
  | zero =>
    intro j hj hle
    obtain rfl : j = l.length := by omega
    rw [claims_Of.l0, if_neg (by omega), List.drop_length]
    rfl
  | succ n ih =>
    intro j hj hle
    have hlt : j < l.length := by omega
    have hr : rd_T64 l (j : Int) = l[j] := by unfold rd_T64; simp [hlt]
    have ew : wrap64 ((j : Int) + 1) = ((j + 1 : Nat) : Int) := by unfold wrap64; omega
    rw [claims_Of.l0, if_pos (by omega), if_pos (by omega), if_pos (by omega), hr, ew, ih (j + 1) (by omega) (by omega), List.drop_eq_getElem_cons hlt, List.find?_cons]
    by_cases h1 : l[j].f0 ≤ s
    · by_cases h2 : s ≤ l[j].f1
      · rw [if_pos h1, if_pos h2, decide_eq_true h1, decide_eq_true h2]; rfl
      · rw [if_pos h1, if_neg h2, decide_eq_true h1, decide_eq_false h2]; rfl
    · rw [if_neg h1, decide_eq_false h1]; rfl
theorem of_any (A : Option Addr) (c : Nat) (l : List S64) (s : Int) (w : World) (hr : Kd.C k64 w A l.length l) (hc : l.length ≤ c) (hl : l.length ≤ 9000000000000000000) :
    Calls Tryd.prog 27 #[.slice A l.length c, .int .i64 s] w fun e w' => e = .returned (.tuple #[.int .i64 (ofP l s).1, .int .i64 (ofP l s).2.1, .bool (ofP l s).2.2]) ∧ Below w.heap.size w w' :=
  claims_Of.calls (l.length + 1) A c l s _ _ _ w hr hc (ofP_eq l s hl)
set_option maxRecDepth 100000 in
set_option maxHeartbeats 4000000 in
theorem decide1_calls (m : S61) (s : Int) (bx : Addr) (w : World) (hx : w.cell? bx = some (.int .i64 s)) :
    Calls Tryd.prog 30 #[.agg #[.int .i64 m.f0, .int .i64 m.f1, .int .i64 m.f2, .string m.f3], .pointer (some bx)] w fun e w' => e = .returned (.bool (m.f0 == s)) ∧ Below w.heap.size w w' := by
  obtain ⟨x0, x1, x2, x3⟩ := m
  have hx2 := ((Below.refl w.heap.size w).alloc (Nat.le_refl _) (.cells #[.int .i64 x0, .int .i64 x1, .int .i64 x2, .string x3] 61))
  have hx3 := (Stir.of_below hx2 (fun _ => False)).cell hx (fun e => e)
  have HB := Lib.hid hx2
  clear hx2
  go_enter Tryd.func30, Tryd.ntmps30
  go_wp2
  go_ret
  exact ⟨rfl, HB.out⟩
set_option maxRecDepth 100000 in
set_option maxHeartbeats 4000000 in
theorem indexF_moves (g : Nat) (lb : Array Value) (p : S61 → Bool) (eg : ∀ args w, (callFunc g args).run Tryd.prog w = .ok (.enter g args) w) (A : Option Addr) (c : Nat) (l : List S61) (w : World) (hs : l.length ≤ 9000000000000000000)
    (hp : ∀ x : S61, ∀ w', Below w.heap.size w w' → Calls Tryd.prog g (#[.agg #[.int .i64 x.f0, .int .i64 x.f1, .int .i64 x.f2, .string x.f3]] ++ lb) w' fun e w'' => e = .returned (.bool (p x)) ∧ Below w'.heap.size w' w'')
    (hr : Kd.C k61 w A l.length l) :
    Calls Tryd.prog 29 #[.slice A l.length c, .func (.func g) #[] lb] w fun e w' => e = .returned (.int .i64 (idxI p l)) ∧ Below w.heap.size w w' := by
  have HR := Lib.hid hr
  have HP := Lib.hid hp
  clear hr hp
  go_enter Tryd.func29, Tryd.ntmps29
  go_wp2
  go_loopw [8] (fun i wr => ∃ j : Nat, j ≤ l.length ∧ i = .int .i64 (j : Int) ∧ Below w.heap.size w wr ∧ Hid (∀ i, i < j → ∀ y, l[i]? = some y → p y = false)) (fun i _ => l.length - (intOf i).toNat)
  case atStart => exact ⟨0, by omega, rfl, Below.refl _ _, Lib.hid (fun i h => absurd h (Nat.not_lt_zero _))⟩
  case round =>
    obtain ⟨j, hj, rfl, hB, hn⟩ := hrel
    by_cases hlt : j < l.length
    · obtain ⟨ad, rfl, e0, e1, e2, e3⟩ := at_T61 HR.out (j : Int) (by omega) (by omega)
      rw [Int.toNat_natCast] at e0 e1 e2 e3
      have hk2 : rd_T61 l (j : Int) = l[j] := by unfold rd_T61; simp [hlt]
      rw [hk2] at e0 e1 e2 e3
      replace e0 := (Stir.of_below hB (fun _ => False)).cell e0 (fun e => e)
      replace e1 := (Stir.of_below hB (fun _ => False)).cell e1 (fun e => e)
      replace e2 := (Stir.of_below hB (fun _ => False)).cell e2 (fun e => e)
      replace e3 := (Stir.of_below hB (fun _ => False)).cell e3 (fun e => e)
      have hx : l[j]? = some l[j] := List.getElem?_eq_getElem hlt
      have hcall := HP.out l[j] _ hB
      have HX := Lib.hid hx
      have HB := Lib.hid hB
      clear hx hB hk2
      have hltz : (j : Int) < (l.length : Int) := by omega
      generalize l[j] = x at e0 e1 e2 e3 hcall HX
      cases hq : p x with
      | true =>
        rw [hq] at hcall
        have HQ := Lib.hid hq
        clear hq
        go_wp2_with (go_at_fn g; refine hcall.mono ?_; rintro e w' ⟨rfl, hb⟩)
        go_ret
        exact ⟨by rw [idxI_hit p l j x HX.out HQ.out hn.out]; rfl, HB.out.trans (hb.mono HB.out.size)⟩
      | false =>
        rw [hq] at hcall
        have HQ := Lib.hid hq
        clear hq
        go_wp2_with (go_at_fn g; refine hcall.mono ?_; rintro e w' ⟨rfl, hb⟩)
        go_roundw
        case rel =>
          refine ⟨j + 1, by omega, by simp, HB.out.trans (hb.mono HB.out.size), Lib.hid (fun i hi y hy => ?_)⟩
          by_cases e : i = j
          · subst e; rw [HX.out] at hy; cases hy; exact HQ.out
          · exact hn.out i (by omega) y hy
        case measure => simp [intOf]; omega
    · have hltz : ¬ (j : Int) < (l.length : Int) := by omega
      obtain rfl : j = l.length := by omega
      have HB := Lib.hid hB
      clear hB
      go_wp2
      go_ret
      exact ⟨by rw [idxI_miss p l hn.out]; rfl, HB.out⟩
/-- what route.Decide answers -/
def decideP (id master : Int) (cl : List S64) (db : List S70) (mv : List S61) (keys : List ByteArray) (asking : Bool) : ByteArray :=
  if keys = [] then ⟨#[]⟩
  else if (oneP keys).2 = false then ⟨#[67, 82, 79, 83, 83, 83, 76, 79, 84]⟩
  else if (ofP cl (oneP keys).1).2.2 = false then ⟨#[67, 76, 85, 83, 84, 69, 82, 68, 79, 87, 78]⟩
  else if master = -1 ∧ (ofP cl (oneP keys).1).1 ≠ id ∧ asking = true then ⟨#[]⟩
  else if master ≠ -1 ∨ (ofP cl (oneP keys).1).1 ≠ id then sentB ⟨#[77, 79, 86, 69, 68]⟩ (oneP keys).1 (ofP cl (oneP keys).1).1
  else match mv.find? (fun m => m.f0 == ((oneP keys).1 : Int)) with
    | none => ⟨#[]⟩
    | some m => movingP db m keys
end Go.Proofs.YtijploopgmbhfaaDoor.G
