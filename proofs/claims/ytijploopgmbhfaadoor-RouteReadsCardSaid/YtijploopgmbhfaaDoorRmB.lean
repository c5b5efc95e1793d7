/- slices.Index and Contains over texts; route.moving. Conditions: none but what a slice's length bears; strconv's variables are as they are laid. -/
import Derived.Test.YtijploopgmbhfaaDoorRmA
import Derived.Test.YtijploopgmbhfaaDoorRt
import Derived.Test.YtijploopgmbhfaaDoorSlD
namespace Go.Proofs.YtijploopgmbhfaaDoor.G
open Go.RowKit Go.Cav Go.Proofs.YtijploopgmbhfaaDoorW.PrintWords Go.Proofs.YtijploopgmbhfaaDoorW.PrintLast Go.Proofs.YtijploopgmbhfaaDoorW.PrintMore
attribute [local go_sem] Oper.semAt_some
set_option maxRecDepth 100000 in
set_option maxHeartbeats 4000000 in
theorem index_texts (A : Option Addr) (c : Nat) (l : List ByteArray) (s : ByteArray) (w : World) (hs : l.length ≤ 9000000000000000000) (hr : Kd.C Kd.string w A l.length l) :
    Calls Tryd.prog 64 #[.slice A l.length c, .string s] w fun e w' => e = .returned (.int .i64 (idxI (fun x => s.toList == x.toList) l)) ∧ Below w.heap.size w w' := by
  have HR := Lib.hid hr
  clear hr
  go_enter Tryd.func64, Tryd.ntmps64
  go_wp2
  go_loopw [8] (fun i wr => ∃ j : Nat, j ≤ l.length ∧ i = .int .i64 (j : Int) ∧ Below w.heap.size w wr ∧ Hid (∀ i, i < j → ∀ y, l[i]? = some y → (s.toList == y.toList) = false)) (fun i _ => l.length - (intOf i).toNat)
  case atStart => exact ⟨0, by omega, rfl, Below.refl _ _, Lib.hid (fun i h => absurd h (Nat.not_lt_zero _))⟩
  case round =>
    obtain ⟨j, hj, rfl, hB, hn⟩ := hrel
    by_cases hlt : j < l.length
    · obtain ⟨ad, rfl, cj⟩ := Kd.at_string HR.out (j : Int) (by omega) (by omega)
      rw [Int.toNat_natCast] at cj
      have hx : rdOf ByteArray.empty l (j : Int) = l[j] := by unfold rdOf; simp [hlt]
      rw [hx] at cj
      replace cj := (Stir.of_below hB (fun _ => False)).cell cj (fun e => e)
      have hg : l[j]? = some l[j] := List.getElem?_eq_getElem hlt
      have HX := Lib.hid hg
      have HB := Lib.hid hB
      clear hx hg hB
      have hltz : (j : Int) < (l.length : Int) := by omega
      generalize l[j] = x at cj HX
      cases hq : (s.toList == x.toList) with
      | true =>
        have HQ := Lib.hid hq
        go_wp2
        go_ret
        have e := idxI_hit (fun x => s.toList == x.toList) l j x HX.out HQ.out hn.out
        exact ⟨by rw [e]; rfl, HB.out⟩
      | false =>
        have HQ := Lib.hid hq
        go_wp2
        go_roundw
        case rel =>
          refine ⟨j + 1, by omega, by simp, HB.out, Lib.hid (fun i hi y hy => ?_)⟩
          by_cases e : i = j
          · subst e; rw [HX.out] at hy; cases hy; exact HQ.out
          · exact hn.out i (by omega) y hy
        case measure => simp [intOf]; omega
    · have hltz : ¬ (j : Int) < (l.length : Int) := by omega
      obtain rfl : j = l.length := by omega
      have HB := Lib.hid hB
      clear hB
      go_wp2
      go_ret
      have e := idxI_miss (fun x => s.toList == x.toList) l hn.out
      exact ⟨by rw [e]; rfl, HB.out⟩
set_option maxRecDepth 100000 in
set_option maxHeartbeats 4000000 in
theorem contains_texts (A : Option Addr) (c : Nat) (l : List ByteArray) (s : ByteArray) (w : World) (hs : l.length ≤ 9000000000000000000) (hr : Kd.C Kd.string w A l.length l) :
    Calls Tryd.prog 52 #[.slice A l.length c, .string s] w fun e w' => e = .returned (.bool (l.any (fun x => s.toList == x.toList))) ∧ Below w.heap.size w w' := by
  have hI := index_texts A c l s w hs hr
  have hA := idxI_any (fun x => s.toList == x.toList) l
  generalize idxI (fun x => s.toList == x.toList) l = n at hI hA
  have HA := Lib.hid hA
  clear hr hA
  go_enter Tryd.func52, Tryd.ntmps52
  go_wp2_with (go_at_call 64; refine hI.mono ?_; rintro e w1 ⟨rfl, hb⟩)
  go_ret
  exact ⟨by rw [← HA.out]; rfl, hb⟩
def tryL : ByteArray := ⟨#[84, 82, 89, 65, 71, 65, 73, 78]⟩
def sentB (f : ByteArray) (a b : Int) : ByteArray := f ++ ⟨#[32]⟩ ++ itoaB a ++ ⟨#[32]⟩ ++ itoaB b
/-- what route.moving answers -/
def movingP (db : List S70) (m : S61) (keys : List ByteArray) : ByteArray :=
  if 0 < m.f2 ∧ keys.any (fun x => m.f3.toList == x.toList) = true then tryL
  else if missN db keys = 0 then ⟨#[]⟩
  else if missN db keys = keys.length then sentB ⟨#[65, 83, 75]⟩ m.f0 m.f1
  else tryL
set_option maxRecDepth 100000 in
set_option maxHeartbeats 8000000 in
theorem moving_calls (v0 v1 v2 v3 v4 v5 : Value) (A6 : Option Addr) (c6 : Nat) (l6 : List S70) (v7 v8 v9 v10 v11 v12 v13 v14 v15 v16 v17 v18 v19 v20 v21 : Value) (m : S61) (A1 : Option Addr) (c1 : Nat) (l1 : List ByteArray) (w : World)
    (hr6 : Kd.C k70 w A6 l6.length l6) (hr1 : Kd.C Kd.string w A1 l1.length l1) (h6 : l6.length ≤ 9000000000000000000) (h1 : l1.length ≤ 9000000000000000000) (hW : Wd w)
    (m0 : -9223372036854775808 ≤ m.f0 ∧ m.f0 ≤ 9223372036854775807) (m1 : -9223372036854775808 ≤ m.f1 ∧ m.f1 ≤ 9223372036854775807) :
    Calls Tryd.prog 31 #[.agg #[v0, v1, v2, v3, v4, v5, .slice A6 l6.length c6, v7, v8, v9, v10, v11, v12, v13, v14, v15, v16, v17, v18, v19, v20, v21], .agg #[.int .i64 m.f0, .int .i64 m.f1, .int .i64 m.f2, .string m.f3], .slice A1 l1.length c1] w fun e w' => e = .returned (.string (movingP l6 m l1)) ∧ Below w.heap.size w w' := by
  have hC : ∀ w1, Below w.heap.size w w1 → Calls Tryd.prog 52 #[.slice A1 l1.length c1, .string m.f3] w1 fun e w' => e = .returned (.bool (l1.any (fun x => m.f3.toList == x.toList))) ∧ Below w1.heap.size w1 w' := fun w1 h =>
    contains_texts A1 c1 l1 m.f3 w1 h1 (ReadsRow.imp_ hr1 h (fun _ _ hp => hp))
  have hM : ∀ w1, Below w.heap.size w w1 → Calls Tryd.prog 53 #[.slice A6 l6.length c6, .slice A1 l1.length c1] w1 fun e w' => e = .returned (.int .i64 (missN l6 l1 : Nat)) ∧ Below w1.heap.size w1 w' := fun w1 h =>
    missing_calls A6 c6 l6 A1 c1 l1 w1 (Kd.C_below hr6 h) (Kd.C_below hr1 h) h6 h1
  have hS : ∀ w1, Below w.heap.size w w1 → Calls Tryd.prog 28 #[.string ⟨#[65, 83, 75]⟩, .int .i64 m.f0, .int .i64 m.f1] w1 fun e w' => e = .returned (.string (sentB ⟨#[65, 83, 75]⟩ m.f0 m.f1)) ∧ Below w1.heap.size w1 w' := fun w1 h =>
    sent_any ⟨#[65, 83, 75]⟩ m.f0 m.f1 (by decide) m0.1 m0.2 m1.1 m1.2 w1 (hW.of h)
  have hP : movingP l6 m l1 = if 0 < m.f2 ∧ l1.any (fun x => m.f3.toList == x.toList) = true then tryL else if missN l6 l1 = 0 then ⟨#[]⟩ else if missN l6 l1 = l1.length then sentB ⟨#[65, 83, 75]⟩ m.f0 m.f1 else tryL := rfl
  generalize movingP l6 m l1 = r at hP ⊢
  have hle := missN_le l6 l1
  generalize missN l6 l1 = ms at hM hP hle
  generalize l1.any (fun x => m.f3.toList == x.toList) = b at hC hP
  generalize sentB ⟨#[65, 83, 75]⟩ m.f0 m.f1 = st at hS hP
  have HP := Lib.hid hP
  have HC := Lib.hid hC
  have HM := Lib.hid hM
  have HS := Lib.hid hS
  clear hP hC hM hS hW m0 m1 hr6 hr1
  obtain ⟨x0, x1, x2, x3⟩ := m
  dsimp only at HP HC HS ⊢
  have hB1 : ∀ o o', Below w.heap.size w ((w.alloc o).alloc o') := fun o o' => ((Below.refl w.heap.size w).alloc (Nat.le_refl _) o).alloc (by simp) o'
  have HB1 := Lib.hid hB1
  clear hB1
  have rest : ∀ w1, Below w.heap.size w w1 → Hid (r = if ms = 0 then ⟨#[]⟩ else if ms = l1.length then st else tryL) → True := fun _ _ _ => trivial
  clear rest
  by_cases hp : 0 < x2
  · have hpz : decide (0 < x2) = true := decide_eq_true hp
    have HPP := Lib.hid hp
    cases b with
    | true =>
      obtain rfl : r = tryL := by rw [HP.out, if_pos ⟨hp, rfl⟩]
      clear HP
      go_enter Tryd.func31, Tryd.ntmps31
      go_wp2_with fail
      refine (HC.out _ (HB1.out _ _)).mono ?_
      rintro e w1 ⟨rfl, hb⟩
      have HB2 := Lib.hid ((HB1.out _ _).trans (hb.mono (HB1.out _ _).size))
      clear hb HC
      go_wp2
      go_ret
      exact ⟨rfl, HB2.out⟩
    | false =>
      have hr : r = if ms = 0 then ⟨#[]⟩ else if ms = l1.length then st else tryL := by rw [HP.out, if_neg (fun h => by cases h.2)]
      have HR := Lib.hid hr
      clear HP hr
      go_enter Tryd.func31, Tryd.ntmps31
      go_wp2_with fail
      refine (HC.out _ (HB1.out _ _)).mono ?_
      rintro e w1 ⟨rfl, hb⟩
      have HB2 := Lib.hid ((HB1.out _ _).trans (hb.mono (HB1.out _ _).size))
      have f6 : w1.cell? ⟨w.heap.size, 6, none⟩ = some (.slice A6 l6.length c6) := (Stir.of_below hb (fun _ => False)).cell (by simp) (fun e => e)
      have g0 : w1.cell? ⟨w.heap.size + 1, 0, none⟩ = some (.int .i64 x0) := (Stir.of_below hb (fun _ => False)).cell (by simp) (fun e => e)
      have g1 : w1.cell? ⟨w.heap.size + 1, 1, none⟩ = some (.int .i64 x1) := (Stir.of_below hb (fun _ => False)).cell (by simp) (fun e => e)
      clear hb HC
      by_cases k0 : ms = 0
      · obtain rfl : r = ⟨#[]⟩ := by rw [HR.out, if_pos k0]
        subst k0
        clear HR
        go_wp2_with fail
        refine (HM.out _ HB2.out).mono ?_
        rintro e w2 ⟨rfl, hb3⟩
        have HB3 := Lib.hid (HB2.out.trans (hb3.mono HB2.out.size))
        clear hb3 HM HB2
        go_wp2
        go_ret
        exact ⟨rfl, HB3.out⟩
      · have k0z : ((ms : Int) == 0) = false := by simp; omega
        have K0 := Lib.hid k0
        clear k0
        by_cases k1 : ms = l1.length
        · obtain rfl : r = st := by rw [HR.out, if_neg K0.out, if_pos k1]
          have k1z : ((ms : Int) == (l1.length : Int)) = true := by simp; omega
          clear HR k1
          go_wp2_with fail
          refine (HM.out _ HB2.out).mono ?_
          rintro e w2 ⟨rfl, hb3⟩
          have HB3 := Lib.hid (HB2.out.trans (hb3.mono HB2.out.size))
          replace g0 := (Stir.of_below hb3 (fun _ => False)).cell g0 (fun e => e)
          replace g1 := (Stir.of_below hb3 (fun _ => False)).cell g1 (fun e => e)
          clear hb3 HM HB2 f6
          go_wp2_with fail
          refine (HS.out _ HB3.out).mono ?_
          rintro e w3 ⟨rfl, hb4⟩
          have HB4 := Lib.hid (HB3.out.trans (hb4.mono HB3.out.size))
          clear hb4 HS HB3 g0 g1
          go_wp2
          go_ret
          exact ⟨rfl, HB4.out⟩
        · obtain rfl : r = tryL := by rw [HR.out, if_neg K0.out, if_neg k1]
          have k1z : ((ms : Int) == (l1.length : Int)) = false := by simp; omega
          clear HR k1
          go_wp2_with fail
          refine (HM.out _ HB2.out).mono ?_
          rintro e w2 ⟨rfl, hb3⟩
          have HB3 := Lib.hid (HB2.out.trans (hb3.mono HB2.out.size))
          clear hb3 HM HB2 f6
          go_wp2
          go_ret
          exact ⟨rfl, HB3.out⟩
  · have hr : r = if ms = 0 then ⟨#[]⟩ else if ms = l1.length then st else tryL := by rw [HP.out, if_neg (fun h => hp h.1)]
    have hpz : decide (0 < x2) = false := decide_eq_false hp
    have HR := Lib.hid hr
    have HPP := Lib.hid hp
    clear HP hr hp HC
    have hw0 : ∃ w0, w0 = (w.alloc (.cells #[v0, v1, v2, v3, v4, v5, .slice A6 l6.length c6, v7, v8, v9, v10, v11, v12, v13, v14, v15, v16, v17, v18, v19, v20, v21] 36)).alloc (.cells #[.int .i64 x0, .int .i64 x1, .int .i64 x2, .string x3] 61) := ⟨_, rfl⟩
    obtain ⟨w0, hw0⟩ := hw0
    have HB2 := Lib.hid (HB1.out (.cells #[v0, v1, v2, v3, v4, v5, .slice A6 l6.length c6, v7, v8, v9, v10, v11, v12, v13, v14, v15, v16, v17, v18, v19, v20, v21] 36) (.cells #[.int .i64 x0, .int .i64 x1, .int .i64 x2, .string x3] 61))
    have f6 : w0.cell? ⟨w.heap.size, 6, none⟩ = some (.slice A6 l6.length c6) := by rw [hw0]; simp
    have g0 : w0.cell? ⟨w.heap.size + 1, 0, none⟩ = some (.int .i64 x0) := by rw [hw0]; simp
    have g1 : w0.cell? ⟨w.heap.size + 1, 1, none⟩ = some (.int .i64 x1) := by rw [hw0]; simp
    have g2 : w0.cell? ⟨w.heap.size + 1, 2, none⟩ = some (.int .i64 x2) := by rw [hw0]; simp
    go_enter Tryd.func31, Tryd.ntmps31
    go_upto_region 1 with fail
    rw [← hw0]
    rw [← hw0] at HB2
    clear hw0
    by_cases k0 : ms = 0
    · obtain rfl : r = ⟨#[]⟩ := by rw [HR.out, if_pos k0]
      subst k0
      clear HR
      go_wp2_with fail
      refine (HM.out _ HB2.out).mono ?_
      rintro e w2 ⟨rfl, hb3⟩
      have HB3 := Lib.hid (HB2.out.trans (hb3.mono HB2.out.size))
      clear hb3 HM HB2
      go_wp2
      go_ret
      exact ⟨rfl, HB3.out⟩
    · have k0z : ((ms : Int) == 0) = false := by simp; omega
      have K0 := Lib.hid k0
      clear k0
      by_cases k1 : ms = l1.length
      · obtain rfl : r = st := by rw [HR.out, if_neg K0.out, if_pos k1]
        have k1z : ((ms : Int) == (l1.length : Int)) = true := by simp; omega
        clear HR k1
        go_wp2_with fail
        refine (HM.out _ HB2.out).mono ?_
        rintro e w2 ⟨rfl, hb3⟩
        have HB3 := Lib.hid (HB2.out.trans (hb3.mono HB2.out.size))
        replace g0 := (Stir.of_below hb3 (fun _ => False)).cell g0 (fun e => e)
        replace g1 := (Stir.of_below hb3 (fun _ => False)).cell g1 (fun e => e)
        clear hb3 HM HB2 f6
        go_wp2_with fail
        refine (HS.out _ HB3.out).mono ?_
        rintro e w3 ⟨rfl, hb4⟩
        have HB4 := Lib.hid (HB3.out.trans (hb4.mono HB3.out.size))
        clear hb4 HS HB3 g0 g1
        go_wp2
        go_ret
        exact ⟨rfl, HB4.out⟩
      · obtain rfl : r = tryL := by rw [HR.out, if_neg K0.out, if_neg k1]
        have k1z : ((ms : Int) == (l1.length : Int)) = false := by simp; omega
        clear HR k1
        go_wp2_with fail
        refine (HM.out _ HB2.out).mono ?_
        rintro e w2 ⟨rfl, hb3⟩
        have HB3 := Lib.hid (HB2.out.trans (hb3.mono HB2.out.size))
        clear hb3 HM HB2 f6
        go_wp2
        go_ret
        exact ⟨rfl, HB3.out⟩
end Go.Proofs.YtijploopgmbhfaaDoor.G
