/- slices.IndexFunc, ContainsFunc over texts where the predicate may make memory; slot.One. Conditions: each text's length below 10^9; the library's switch is a number. -/
import Derived.Test.YtijploopgmbhfaaDoorSlC
import Derived.Deep.RegionHeld3
namespace Go.Proofs.YtijploopgmbhfaaDoor
open Go.RowKit Go.Cav
attribute [local go_sem] Oper.semAt_some
/-- the first place at which p holds, or -1 -/
def idxI {α : Type} (p : α → Bool) (l : List α) : Int := match l.findIdx? p with
  | some i => (i : Int)
  | none => -1
theorem idxI_hit {α : Type} (p : α → Bool) (l : List α) (j : Nat) (x : α) (hx : l[j]? = some x) (hp : p x = true) (hn : ∀ i, i < j → ∀ y, l[i]? = some y → p y = false) : idxI p l = (j : Int) := by
  obtain ⟨hj, rfl⟩ := List.getElem?_eq_some_iff.1 hx
  have h : l.findIdx? p = some j := List.findIdx?_eq_some_iff_getElem.2 ⟨hj, hp, fun i hi => by simpa using hn i hi l[i] (List.getElem?_eq_getElem (by omega))⟩
  unfold idxI; rw [h]
theorem idxI_miss {α : Type} (p : α → Bool) (l : List α) (hn : ∀ i, i < l.length → ∀ y, l[i]? = some y → p y = false) : idxI p l = -1 := by
  have h : l.findIdx? p = none := List.findIdx?_eq_none_iff.2 fun x hx => by
    obtain ⟨i, hi, rfl⟩ := List.mem_iff_getElem.1 hx
    exact hn i hi _ (List.getElem?_eq_getElem hi)
  unfold idxI; rw [h]
theorem idxI_any {α : Type} (p : α → Bool) (l : List α) : decide (0 ≤ idxI p l) = l.any p := by
  unfold idxI
  cases h : l.findIdx? p with
  | none =>
    have h1 := List.findIdx?_eq_none_iff.1 h
    have : l.any p = false := by rw [List.any_eq_false]; intro x hx e; rw [h1 x hx] at e; cases e
    rw [this]; rfl
  | some i =>
    obtain ⟨hi, hp, _⟩ := List.findIdx?_eq_some_iff_getElem.1 h
    have : l.any p = true := List.any_eq_true.2 ⟨_, List.getElem_mem hi, hp⟩
    rw [this]; simp
set_option maxRecDepth 100000 in
set_option maxHeartbeats 4000000 in
theorem indexF_texts (g : Nat) (lb : Array Value) (p : ByteArray → Bool) (eg : ∀ args w, (callFunc g args).run Tryd.prog w = .ok (.enter g args) w) (a : Addr) (c : Nat) (l : List ByteArray) (w : World) (hs : l.length ≤ 9000000000000000000)
    (hp : ∀ x ∈ l, ∀ w', Below w.heap.size w w' → Calls Tryd.prog g (#[.string x] ++ lb) w' fun e w'' => e = .returned (.bool (p x)) ∧ Below w'.heap.size w' w'')
    (hc : ∀ (j : Nat) (x : ByteArray), l[j]? = some x → w.cell? (a.add j) = some (.string x)) :
    Calls Tryd.prog 62 #[.slice (some a) l.length c, .func (.func g) #[] lb] w fun e w' => e = .returned (.int .i64 (idxI p l)) ∧ Below w.heap.size w w' := by
  have HC := Lib.hid hc
  have HP := Lib.hid hp
  clear hc hp
  go_enter Tryd.func62, Tryd.ntmps62
  go_wp2
  go_loopw [8] (fun i wr => ∃ j : Nat, j ≤ l.length ∧ i = .int .i64 (j : Int) ∧ Below w.heap.size w wr ∧ Hid (∀ i, i < j → ∀ y, l[i]? = some y → p y = false)) (fun i _ => l.length - (intOf i).toNat)
  case atStart => exact ⟨0, by omega, rfl, Below.refl _ _, Lib.hid (fun i h => absurd h (Nat.not_lt_zero _))⟩
  case round =>
    obtain ⟨j, hj, rfl, hB, hn⟩ := hrel
    by_cases hlt : j < l.length
    · have hx : l[j]? = some l[j] := List.getElem?_eq_getElem hlt
      have cj := (Stir.of_below hB (fun _ => False)).cell (HC.out j l[j] hx) (fun e => e)
      have hcall := HP.out l[j] (List.getElem_mem hlt) _ hB
      have HX := Lib.hid hx
      have HB := Lib.hid hB
      clear hx hB
      have hltz : (j : Int) < (l.length : Int) := by omega
      generalize l[j] = x at cj hcall HX
      cases hq : p x with
      | true =>
        rw [hq] at hcall
        have HQ := Lib.hid hq
        clear hq
        go_wp2_with (go_at_fn g; refine hcall.mono ?_; rintro e w' ⟨rfl, hb⟩)
        go_ret
        exact ⟨by rw [idxI_hit p l j x HX.out HQ.out hn.out]; rfl, HB.out.trans (hb.mono HB.out.size)⟩
      | false =>
        rw [hq] at hcall
        have HQ := Lib.hid hq
        clear hq
        go_wp2_with (go_at_fn g; refine hcall.mono ?_; rintro e w' ⟨rfl, hb⟩)
        go_roundw
        case rel =>
          refine ⟨j + 1, by omega, by simp, HB.out.trans (hb.mono HB.out.size), Lib.hid (fun i hi y hy => ?_)⟩
          by_cases e : i = j
          · subst e; rw [HX.out] at hy; cases hy; exact HQ.out
          · exact hn.out i (by omega) y hy
        case measure => simp [intOf]; omega
    · have hltz : ¬ (j : Int) < (l.length : Int) := by omega
      obtain rfl : j = l.length := by omega
      have HB := Lib.hid hB
      clear hB
      go_wp2
      go_ret
      exact ⟨by rw [idxI_miss p l hn.out]; rfl, HB.out⟩
set_option maxRecDepth 100000 in
set_option maxHeartbeats 4000000 in
theorem containsF_texts (g : Nat) (lb : Array Value) (p : ByteArray → Bool) (eg : ∀ args w, (callFunc g args).run Tryd.prog w = .ok (.enter g args) w) (a : Addr) (c : Nat) (l : List ByteArray) (w : World) (hs : l.length ≤ 9000000000000000000)
    (hp : ∀ x ∈ l, ∀ w', Below w.heap.size w w' → Calls Tryd.prog g (#[.string x] ++ lb) w' fun e w'' => e = .returned (.bool (p x)) ∧ Below w'.heap.size w' w'')
    (hc : ∀ (j : Nat) (x : ByteArray), l[j]? = some x → w.cell? (a.add j) = some (.string x)) :
    Calls Tryd.prog 49 #[.slice (some a) l.length c, .func (.func g) #[] lb] w fun e w' => e = .returned (.bool (l.any p)) ∧ Below w.heap.size w w' := by
  have hI := indexF_texts g lb p eg a c l w hs hp hc
  have hA := idxI_any p l
  generalize idxI p l = n at hI hA
  have HA := Lib.hid hA
  clear hc hp hA
  go_enter Tryd.func49, Tryd.ntmps49
  go_wp2_with (go_at_call 62; refine hI.mono ?_; rintro e w1 ⟨rfl, hb⟩)
  go_ret
  exact ⟨by rw [← HA.out]; rfl, hb⟩
theorem bne_cast (k n : Nat) : ((k : Int) != (n : Int)) = (k != n) := by rw [Bool.eq_iff_iff]; simp; omega
set_option maxRecDepth 100000 in
set_option maxHeartbeats 4000000 in
theorem one1_calls (s : ByteArray) (hs : s.size ≤ 1000000000) (n : Nat) (bx : Addr) (w : World) (hm : Most w) (hx : w.cell? bx = some (.int .i64 (n : Int))) :
    Calls Tryd.prog 50 #[.string s, .pointer (some bx)] w fun e w' => e = .returned (.bool (slotN s != n)) ∧ Below w.heap.size w w' := by
  have hO : ∀ w1, Below w.heap.size w w1 → Calls Tryd.prog 48 #[.string s] w1 fun e w' => e = .returned (.int .i64 (slotN s : Nat)) ∧ Below w1.heap.size w1 w' := fun w1 h => of_calls s hs w1 (hm.of h)
  have hX : ∀ w1, Below w.heap.size w w1 → w1.cell? bx = some (.int .i64 (n : Int)) := fun w1 h => (Stir.of_below h (fun _ => False)).cell hx (fun e => e)
  generalize slotN s = k at hO
  have HO := Lib.hid hO
  have HX := Lib.hid hX
  clear hO hm hX
  go_enter Tryd.func50, Tryd.ntmps50
  go_wp2_with fail
  go_region_held3 (fun w' => w'.cell? bx = some (.int .i64 (n : Int))) (first | assumption | (refine ⟨?_, ?_⟩ <;> assumption))
    (first | (go_at_call 48; refine (HO.out _ (below_drewN w _)).mono ?_; rintro e w1 ⟨rfl, hb⟩; have hx1 := HX.out w1 ((below_drewN w _).trans hb)))
  go_wp2
  go_ret
  exact ⟨by rw [← bne_cast]; rfl, (below_drewN w 1).trans hb⟩
/-- what slot.One answers -/
def oneP (l : List ByteArray) : Nat × Bool :=
  match l with
  | [] => (0, false)
  | k :: r => if (k :: r).any (fun s => slotN s != slotN k) then (0, false) else (slotN k, true)
set_option maxRecDepth 100000 in
set_option maxHeartbeats 4000000 in
theorem one_calls (A : Option Addr) (c : Nat) (l : List ByteArray) (hs : ∀ s ∈ l, s.size ≤ 1000000000) (hl : l.length ≤ 9000000000000000000) (w : World) (hm : Most w) (hr : ∀ (j : Nat) (x : ByteArray), l[j]? = some x → ∃ a, A = some a ∧ w.cell? (a.add j) = some (.string x)) :
    Calls Tryd.prog 26 #[.slice A l.length c] w fun e w' => e = .returned (.tuple #[.int .i64 ((oneP l).1 : Nat), .bool (oneP l).2]) ∧ Below w.heap.size w w' := by
  have key : ∀ a c, l ≠ [] → (∀ (j : Nat) (x : ByteArray), l[j]? = some x → w.cell? (a.add j) = some (.string x)) → Calls Tryd.prog 26 #[.slice (some a) l.length c] w fun e w' => e = .returned (.tuple #[.int .i64 ((oneP l).1 : Nat), .bool (oneP l).2]) ∧ Below w.heap.size w w' := by
    intro a c hne hcell
    cases l with
    | nil => exact absurd rfl hne
    | cons k r =>
      have c0 : w.cell? a = some (.string k) := by have h := hcell 0 k rfl; rwa [show a.add 0 = a by simp [Addr.add]] at h
      have hO : Calls Tryd.prog 48 #[.string k] w fun e w' => e = .returned (.int .i64 (slotN k : Nat)) ∧ Below w.heap.size w w' := of_calls k (hs k List.mem_cons_self) w hm
      have ho : oneP (k :: r) = if (k :: r).any (fun s => slotN s != slotN k) then (0, false) else (slotN k, true) := rfl
      have hC : ∀ (bx : Addr) w1, Below w.heap.size w w1 → w1.cell? bx = some (.int .i64 (slotN k : Nat)) → Calls Tryd.prog 49 #[.slice (some a) (k :: r).length c, .func (.func 50) #[] #[.pointer (some bx)]] w1 fun e w' => e = .returned (.bool ((k :: r).any (fun s => slotN s != slotN k))) ∧ Below w1.heap.size w1 w' := fun bx w1 h1 hx =>
        containsF_texts 50 #[.pointer (some bx)] _ (enters_of Tryd.func50 (by kernel_rfl) rfl) a c (k :: r) w1 hl
          (fun s hsm w2 h2 => one1_calls s (hs s hsm) (slotN k) bx w2 (hm.of (h1.trans (h2.mono h1.size))) ((Stir.of_below h2 (fun _ => False)).cell hx (fun e => e)))
          (fun j x hj => (Stir.of_below h1 (fun _ => False)).cell (hcell j x hj) (fun e => e))
      have lt := slotN_lt k
      generalize slotN k = n at hO hC ho lt
      generalize (k :: r).any (fun s => slotN s != n) = b at hC ho
      generalize oneP (k :: r) = o at ho
      have HO := Lib.hid ho
      have HC := Lib.hid hC
      have hp : 0 < (k :: r).length := by simp
      have hp2 : (((k :: r).length : Int) == 0) = false := by simp; omega
      generalize (k :: r).length = len at hl HC hp hp2
      clear hC ho hs hcell hne hr hm
      go_enter Tryd.func26, Tryd.ntmps26
      go_wp2_with fail
      refine hO.mono ?_
      rintro e w1 ⟨rfl, hb⟩
      have HB := Lib.hid hb
      clear hO hb
      go_wp2_with fail
      have hbx : Below w.heap.size w (w1.alloc (.cells #[.int .i64 (n : Int)] 3)) := HB.out.alloc HB.out.size _
      have hnew : (w1.alloc (.cells #[.int .i64 (n : Int)] 3)).cell? ⟨w1.heap.size, 0, none⟩ = some (.int .i64 (n : Int)) := (cell_of_row _ _ 0 _ _ _ (heap_alloc_new w1 _)).trans rfl
      refine (HC.out ⟨w1.heap.size, 0, none⟩ _ hbx hnew).mono ?_
      rintro e w2 ⟨rfl, h2⟩
      have hn2 := (Stir.of_below h2 (fun _ => False)).cell hnew (fun e => e)
      have HB2 := Lib.hid (hbx.trans (h2.mono hbx.size))
      clear HC hbx hnew h2 HB
      cases b with
      | true =>
        obtain rfl : o = (0, false) := HO.out
        clear HO
        go_wp2
        go_ret2
        exact ⟨rfl, HB2.out⟩
      | false =>
        obtain rfl : o = (n, true) := HO.out
        clear HO
        go_wp2
        go_ret2
        exact ⟨rfl, HB2.out⟩
  by_cases hne : l = []
  · subst hne
    clear hs hr key hm hl
    go_enter Tryd.func26, Tryd.ntmps26
    go_wp2
    go_ret2
    exact ⟨rfl, Below.refl _ _⟩
  · obtain ⟨a, rfl⟩ : ∃ a, A = some a := by
      cases l with
      | nil => exact absurd rfl hne
      | cons k r => obtain ⟨a, h, _⟩ := hr 0 k rfl; exact ⟨a, h⟩
    exact key a c hne (fun j x hj => by obtain ⟨a', h, h2⟩ := hr j x hj; cases h; exact h2)
end Go.Proofs.YtijploopgmbhfaaDoor
