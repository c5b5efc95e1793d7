/- What route.Decide answers. Conditions: the numbers of the node's lists lie in their types, lengths below 10^9. -/
import Derived.Test.YtijploopgmbhfaaDoorRmC
import Derived.Deep.QuietTactic
import Derived.BigQuiet
import Derived.Test.YtijploopgmbhfaaDoorCavStill
namespace Go.Proofs.YtijploopgmbhfaaDoor.G
open Go.RowKit Go.Cav Go.Proofs.YtijploopgmbhfaaDoorW.PrintWords Go.Proofs.YtijploopgmbhfaaDoorW.PrintLast Go.Proofs.YtijploopgmbhfaaDoorW.PrintMore
attribute [local go_sem] Oper.semAt_some
theorem idxI_find {α : Type} (p : α → Bool) (l : List α) : (l.find? p = none ∧ idxI p l = -1) ∨ ∃ (i : Nat) (x : α), l[i]? = some x ∧ l.find? p = some x ∧ idxI p l = (i : Int) := by
  unfold idxI
  cases h : l.findIdx? p with
  | none => exact .inl ⟨List.find?_eq_none.2 (fun x hx e => by { rw [List.findIdx?_eq_none_iff.1 h x hx] at e; cases e }), rfl⟩
  | some i =>
    obtain ⟨hi, hp, hn⟩ := List.findIdx?_eq_some_iff_getElem.1 h
    refine .inr ⟨i, l[i], List.getElem?_eq_getElem hi, ?_, rfl⟩
    rw [List.find?_eq_some_iff_getElem]
    exact ⟨hp, i, hi, rfl, fun j hj => by simpa using hn j hj⟩
set_option maxRecDepth 100000 in
set_option maxHeartbeats 8000000 in
theorem decide_calls (v0 : Value) (id master : Int) (v3 v4 : Value) (A5 : Option Addr) (c5 : Nat) (l5 : List S64) (A6 : Option Addr) (c6 : Nat) (l6 : List S70) (A7 : Option Addr) (c7 : Nat) (l7 : List S61) (v8 v9 v10 v11 v12 v13 v14 v15 v16 v17 v18 v19 v20 v21 : Value) (A1 : Option Addr) (c1 : Nat) (l1 : List ByteArray) (asking : Bool) (w : World)
    (hr5 : Kd.C k64 w A5 l5.length l5) (hc5 : l5.length ≤ c5) (hr6 : Kd.C k70 w A6 l6.length l6) (hr7 : Kd.C k61 w A7 l7.length l7) (hr1 : Kd.C Kd.string w A1 l1.length l1)
    (h5 : l5.length ≤ 1000000000) (h6 : l6.length ≤ 1000000000) (h7 : l7.length ≤ 1000000000) (h1 : l1.length ≤ 1000000000) (hs : ∀ s ∈ l1, s.size ≤ 1000000000) (hW : Wd w)
    (w5 : ∀ c ∈ l5, -9223372036854775808 ≤ c.f2 ∧ c.f2 ≤ 9223372036854775807)
    (w7 : ∀ m ∈ l7, (-9223372036854775808 ≤ m.f0 ∧ m.f0 ≤ 9223372036854775807) ∧ (-9223372036854775808 ≤ m.f1 ∧ m.f1 ≤ 9223372036854775807)) :
    Calls Tryd.prog 12 #[.agg #[v0, .int .i64 id, .int .i64 master, v3, v4, .slice A5 l5.length c5, .slice A6 l6.length c6, .slice A7 l7.length c7, v8, v9, v10, v11, v12, v13, v14, v15, v16, v17, v18, v19, v20, v21], .slice A1 l1.length c1, .bool asking] w fun e w' => e = .returned (.string (decideP id master l5 l6 l7 l1 asking)) ∧ Below w.heap.size w w' := by
  have hO : ∀ w1, Below w.heap.size w w1 → Calls Tryd.prog 26 #[.slice A1 l1.length c1] w1 fun e w' => e = .returned (.tuple #[.int .i64 ((oneP l1).1 : Nat), .bool (oneP l1).2]) ∧ Below w1.heap.size w1 w' := fun w1 h =>
    one_calls A1 c1 l1 hs (by omega) w1 (hW.of h).most (fun j x hj => by
      obtain ⟨hj1, rfl⟩ := List.getElem?_eq_some_iff.1 hj
      obtain ⟨ad, e, h2⟩ := Kd.at_string (Kd.C_below hr1 h) (j : Int) (by omega) (by omega)
      rw [Int.toNat_natCast] at h2
      refine ⟨ad, e, h2.trans ?_⟩
      unfold rdOf; simp [hj1])
  have hF : ∀ s w1, Below w.heap.size w w1 → Calls Tryd.prog 27 #[.slice A5 l5.length c5, .int .i64 s] w1 fun e w' => e = .returned (.tuple #[.int .i64 (ofP l5 s).1, .int .i64 (ofP l5 s).2.1, .bool (ofP l5 s).2.2]) ∧ Below w1.heap.size w1 w' := fun s w1 h =>
    of_any A5 c5 l5 s w1 (Kd.C_below hr5 h) hc5 (by omega)
  have hof : ∀ s, -9223372036854775808 ≤ (ofP l5 s).1 ∧ (ofP l5 s).1 ≤ 9223372036854775807 := fun s => by
    unfold ofP
    split
    · rename_i c hc
      exact w5 c (List.mem_of_find?_eq_some hc)
    · exact ⟨by decide, by decide⟩
  have hlt : ((oneP l1).1 : Nat) < 16384 := by
    unfold oneP
    split
    · decide
    · split
      · decide
      · exact slotN_lt _
  have hS : ∀ w1, Below w.heap.size w w1 → Calls Tryd.prog 28 #[.string ⟨#[77, 79, 86, 69, 68]⟩, .int .i64 ((oneP l1).1 : Nat), .int .i64 (ofP l5 (oneP l1).1).1] w1 fun e w' => e = .returned (.string (sentB ⟨#[77, 79, 86, 69, 68]⟩ ((oneP l1).1 : Nat) (ofP l5 (oneP l1).1).1)) ∧ Below w1.heap.size w1 w' := fun w1 h =>
    sent_any ⟨#[77, 79, 86, 69, 68]⟩ _ _ (by decide) (by omega) (by omega) (hof _).1 (hof _).2 w1 (hW.of h)
  have hI : ∀ (bx : Addr) (s : Int) w1, Below w.heap.size w w1 → w1.cell? bx = some (.int .i64 s) → Calls Tryd.prog 29 #[.slice A7 l7.length c7, .func (.func 30) #[] #[.pointer (some bx)]] w1 fun e w' => e = .returned (.int .i64 (idxI (fun m => m.f0 == s) l7)) ∧ Below w1.heap.size w1 w' := fun bx s w1 h hx =>
    indexF_moves 30 #[.pointer (some bx)] _ (enters_of Tryd.func30 (by kernel_rfl) rfl) A7 c7 l7 w1 (by omega)
      (fun x w2 h2 => decide1_calls x s bx w2 ((Stir.of_below h2 (fun _ => False)).cell hx (fun e => e)))
      (Kd.C_below hr7 h)
  have hM : ∀ m ∈ l7, ∀ w1, Below w.heap.size w w1 → Calls Tryd.prog 31 #[.agg #[v0, .int .i64 id, .int .i64 master, v3, v4, .slice A5 l5.length c5, .slice A6 l6.length c6, .slice A7 l7.length c7, v8, v9, v10, v11, v12, v13, v14, v15, v16, v17, v18, v19, v20, v21], .agg #[.int .i64 m.f0, .int .i64 m.f1, .int .i64 m.f2, .string m.f3], .slice A1 l1.length c1] w1 fun e w' => e = .returned (.string (movingP l6 m l1)) ∧ Below w1.heap.size w1 w' := fun m hm w1 h =>
    moving_calls v0 (.int .i64 id) (.int .i64 master) v3 v4 (.slice A5 l5.length c5) A6 c6 l6 (.slice A7 l7.length c7) v8 v9 v10 v11 v12 v13 v14 v15 v16 v17 v18 v19 v20 v21 m A1 c1 l1 w1 (Kd.C_below hr6 h) (Kd.C_below hr1 h) (by omega) (by omega) (hW.of h) (w7 m hm).1 (w7 m hm).2
  have hfd := idxI_find (fun m : S61 => m.f0 == ((oneP l1).1 : Int)) l7
  have hP : decideP id master l5 l6 l7 l1 asking = if l1 = [] then ⟨#[]⟩
    else if (oneP l1).2 = false then ⟨#[67, 82, 79, 83, 83, 83, 76, 79, 84]⟩
    else if (ofP l5 (oneP l1).1).2.2 = false then ⟨#[67, 76, 85, 83, 84, 69, 82, 68, 79, 87, 78]⟩
    else if master = -1 ∧ (ofP l5 (oneP l1).1).1 ≠ id ∧ asking = true then ⟨#[]⟩
    else if master ≠ -1 ∨ (ofP l5 (oneP l1).1).1 ≠ id then sentB ⟨#[77, 79, 86, 69, 68]⟩ (oneP l1).1 (ofP l5 (oneP l1).1).1
    else match l7.find? (fun m => m.f0 == ((oneP l1).1 : Int)) with
      | none => ⟨#[]⟩
      | some m => movingP l6 m l1 := rfl
  have h7at : ∀ (i : Nat) (m : S61) w1, l7[i]? = some m → Below w.heap.size w w1 → ∃ ad, A7 = some ad ∧ w1.cell? (ad.add (i * 4)) = some (.int .i64 m.f0) ∧ w1.cell? ⟨(ad.add (i * 4)).block, (ad.add (i * 4)).off + 1, none⟩ = some (.int .i64 m.f1) ∧ w1.cell? ⟨(ad.add (i * 4)).block, (ad.add (i * 4)).off + 2, none⟩ = some (.int .i64 m.f2) ∧ w1.cell? ⟨(ad.add (i * 4)).block, (ad.add (i * 4)).off + 3, none⟩ = some (.string m.f3) := fun i m w1 hi h => by
    obtain ⟨hj1, rfl⟩ := List.getElem?_eq_some_iff.1 hi
    obtain ⟨ad, e, h2⟩ := at_T61 (Kd.C_below hr7 h) (i : Int) (by omega) (by omega)
    rw [Int.toNat_natCast] at h2
    have hk2 : rd_T61 l7 (i : Int) = l7[i] := by unfold rd_T61; simp [hj1]
    rw [hk2] at h2
    exact ⟨ad, e, h2⟩
  generalize decideP id master l5 l6 l7 l1 asking = r at hP ⊢
  generalize oneP l1 = o at hO hS hlt hfd hP
  obtain ⟨s, one⟩ := o
  dsimp only at hO hS hlt hfd hP
  have hF := hF s
  have hof := hof s
  have hI := fun bx => hI bx s
  generalize ofP l5 (s : Int) = f at hF hof hS hP
  obtain ⟨ow, ep, ok⟩ := f
  dsimp only at hF hof hS hP
  generalize sentB ⟨#[77, 79, 86, 69, 68]⟩ (s : Int) ow = st at hS hP
  have HP := Lib.hid hP
  have HO := Lib.hid hO
  have HS := Lib.hid hS
  have HF := Lib.hid hF
  have HI := Lib.hid hI
  have HM := Lib.hid hM
  have HFD := Lib.hid hfd
  have H7 := Lib.hid h7at
  have HB1 := Lib.hid (fun o => (Below.refl w.heap.size w).alloc (Nat.le_refl _) o : ∀ o, Below w.heap.size w (w.alloc o))
  clear hP hO hS hF hI hM hfd h7at hr5 hc5 hr6 hr7 hr1 h5 h6 hs hW w5 w7
  by_cases hne : l1 = []
  · obtain rfl : r = ⟨#[]⟩ := by rw [HP.out, if_pos hne]
    subst hne
    clear HP HO HS HF HI HM HFD
    go_enter Tryd.func12, Tryd.ntmps12
    go_wp2
    go_ret
    exact ⟨rfl, HB1.out _⟩
  have hl0 : ((l1.length : Int) == 0) = false := by
    have : l1.length ≠ 0 := fun e => hne (List.eq_nil_of_length_eq_zero e)
    simp; omega
  have HP1 := Lib.hid (HP.out.trans (if_neg hne))
  clear HP hne
  go_enter Tryd.func12, Tryd.ntmps12
  go_wp2_with fail
  refine (HO.out _ (HB1.out _)).mono ?_
  rintro e w1 ⟨rfl, hb⟩
  have HB2 := Lib.hid ((HB1.out _).trans (hb.mono (HB1.out _).size))
  have g1 : w1.cell? ⟨w.heap.size, 1, none⟩ = some (.int .i64 id) := (Stir.of_below hb (fun _ => False)).cell (by simp) (fun e => e)
  have g2 : w1.cell? ⟨w.heap.size, 2, none⟩ = some (.int .i64 master) := (Stir.of_below hb (fun _ => False)).cell (by simp) (fun e => e)
  have g5 : w1.cell? ⟨w.heap.size, 5, none⟩ = some (.slice A5 l5.length c5) := (Stir.of_below hb (fun _ => False)).cell (by simp) (fun e => e)
  have g7 : w1.cell? ⟨w.heap.size, 7, none⟩ = some (.slice A7 l7.length c7) := (Stir.of_below hb (fun _ => False)).cell (by simp) (fun e => e)
  have hbl : w.heap.size < w1.heap.size := Nat.lt_of_lt_of_le (by simp) hb.size
  have gn : w1.heap[w.heap.size]? = some (.cells #[v0, .int .i64 id, .int .i64 master, v3, v4, .slice A5 l5.length c5, .slice A6 l6.length c6, .slice A7 l7.length c7, v8, v9, v10, v11, v12, v13, v14, v15, v16, v17, v18, v19, v20, v21] 36 (0, 0)) := (hb.block _ (by simp)).trans (heap_alloc_new w _)
  have GN := Lib.hid gn
  clear hb HO gn
  cases one with
  | false =>
    obtain rfl : r = ⟨#[67, 82, 79, 83, 83, 83, 76, 79, 84]⟩ := by rw [HP1.out, if_pos rfl]
    have HB3 := Lib.hid (fun o => HB2.out.alloc HB2.out.size o : ∀ o, Below w.heap.size w (w1.alloc o))
    clear HP1
    go_wp2
    go_ret
    exact ⟨rfl, HB3.out _⟩
  | true =>
    have HP2 := Lib.hid (HP1.out.trans (if_neg (by simp)))
    clear HP1
    go_wp2_with fail
    have hbx : Below w.heap.size w (w1.alloc (.cells #[.int .i64 (s : Int)] 3)) := HB2.out.alloc HB2.out.size _
    have hnew : (w1.alloc (.cells #[.int .i64 (s : Int)] 3)).cell? ⟨w1.heap.size, 0, none⟩ = some (.int .i64 (s : Int)) := (cell_of_row _ _ 0 _ _ _ (heap_alloc_new w1 _)).trans rfl
    refine (HF.out _ hbx).mono ?_
    rintro e w2 ⟨rfl, h2⟩
    have hA : Below w1.heap.size w1 (w1.alloc (.cells #[.int .i64 (s : Int)] 3)) := (Below.refl w1.heap.size w1).alloc (Nat.le_refl _) _
    have hA2 : Below w1.heap.size w1 w2 := hA.trans (h2.mono hA.size)
    have hn2 := (Stir.of_below h2 (fun _ => False)).cell hnew (fun e => e)
    replace g1 := (Stir.of_below hA2 (fun _ => False)).cell g1 (fun e => e)
    replace g2 := (Stir.of_below hA2 (fun _ => False)).cell g2 (fun e => e)
    replace g7 := (Stir.of_below hA2 (fun _ => False)).cell g7 (fun e => e)
    have gn2 := (hA2.block _ hbl).trans GN.out
    have GN2 := Lib.hid gn2
    have HB3 := Lib.hid (hbx.trans (h2.mono hbx.size))
    have hbl2 : w.heap.size < w2.heap.size := Nat.lt_of_lt_of_le hbl hA2.size
    clear hbx hnew h2 hA hA2 gn2 GN HB2 HF g5 hbl
    generalize w1.heap.size = bx at hn2 ⊢
    cases ok with
    | false =>
      obtain rfl : r = ⟨#[67, 76, 85, 83, 84, 69, 82, 68, 79, 87, 78]⟩ := by rw [HP2.out, if_pos rfl]
      clear HP2
      go_wp2
      go_ret
      exact ⟨rfl, HB3.out⟩
    | true =>
      have HP3 := Lib.hid (HP2.out.trans (if_neg (by simp)))
      clear HP2
      by_cases hm : master = -1
      · subst hm
        by_cases ho : ow = id
        · subst ho
          have ho1 : (ow != ow) = false := by simp
          have HP4 := Lib.hid ((HP3.out.trans (if_neg (fun h => h.2.1 rfl))).trans (if_neg (fun h => h.elim (fun h => h rfl) (fun h => h rfl))))
          clear HP3
          go_wp2_with fail
          refine (HI.out ⟨bx, 0, none⟩ w2 HB3.out hn2).mono ?_
          rintro e w3 ⟨rfl, h3⟩
          have HB4 := Lib.hid (HB3.out.trans (h3.mono HB3.out.size))
          have gn3 := (h3.block _ hbl2).trans GN2.out
          have GN3 := Lib.hid gn3
          replace g7 := (Stir.of_below h3 (fun _ => False)).cell g7 (fun e => e)
          clear h3 HI HB3 GN2 gn3 g1 g2 hn2 ho1
          rcases HFD.out with ⟨f1, f2⟩ | ⟨i, m, f0, f1, f2⟩
          · obtain rfl : r = ⟨#[]⟩ := by rw [HP4.out, f1]
            rw [f2]
            clear HP4 HFD f1 f2
            go_wp2
            go_ret
            exact ⟨rfl, HB4.out⟩
          · obtain rfl : r = movingP l6 m l1 := by rw [HP4.out, f1]
            rw [f2]
            obtain ⟨ad, rfl, e0, e1, e2, e3⟩ := H7.out i m w3 f0 HB4.out
            have hb5 : Below w.heap.size w w3.drew := HB4.out.trans ((below_drewN w3 1).mono HB4.out.size)
            have hcall := HM.out m (List.mem_of_getElem? f0) w3.drew hb5
            have hil : i < l7.length := (List.getElem?_eq_some_iff.1 f0).1
            have hilz : (i : Int) < (l7.length : Int) := by omega
            have HC := Lib.hid hcall
            have HB5 := Lib.hid hb5
            clear HP4 HFD f1 f2 f0 HM H7 hcall hb5 g7 HB4 hI HS hF
            have hld : (loadVar 36 ⟨w.heap.size, 0, none⟩).run Tryd.prog w3.drew = .ok (.agg #[v0, .int .i64 ow, .int .i64 (-1), v3, v4, .slice A5 l5.length c5, .slice A6 l6.length c6, .slice (some ad) l7.length c7, v8, v9, v10, v11, v12, v13, v14, v15, v16, v17, v18, v19, v20, v21]) w3.drew := run_loadVar_row (P := Tryd.prog) w3.drew w.heap.size 36 36 #[v0, .int .i64 ow, .int .i64 (-1), v3, v4, .slice A5 l5.length c5, .slice A6 l6.length c6, .slice (some ad) l7.length c7, v8, v9, v10, v11, v12, v13, v14, v15, v16, v17, v18, v19, v20, v21] (0, 0) _ (show w3.drew.heap[w.heap.size]? = _ from GN3.out) Tryd.underlying36 rfl (by kernel_rfl)
            have g7 : w3.cell? ⟨w.heap.size, 7, none⟩ = some (.slice (some ad) l7.length c7) := (cell_of_row w3 _ 7 _ _ _ GN3.out).trans rfl
            clear GN3
            go_wp2_with fail
            go_still_tail 7, (by kernel_rfl)
            change wpStill _ _ w3.drew _ _ _
            refine still_load 36 (.tmp 3) ⟨w.heap.size, 0, none⟩ _ rfl rfl rfl hld ?_
            clear hld
            repeat still_step
            refine wpStill_nil ?_
            change wpList _ _ _ _ _ w3.drew
            go_wp2_with fail
            refine HC.out.mono ?_
            rintro e w4 ⟨rfl, h4⟩
            have HB6 := Lib.hid (HB5.out.trans (h4.mono HB5.out.size))
            clear h4 HC HB5
            go_wp2
            go_ret
            exact ⟨rfl, HB6.out⟩
        · -- another one's
          have ho1 : (ow != id) = true := by simpa using ho
          have HP4 := Lib.hid HP3.out
          cases asking with
          | true =>
            obtain rfl : r = ⟨#[]⟩ := by rw [HP3.out, if_pos ⟨rfl, ho, rfl⟩]
            clear HP3 HP4 ho
            go_wp2
            go_ret
            exact ⟨rfl, HB3.out⟩
          | false =>
            obtain rfl : r = st := by rw [HP3.out, if_neg (fun h => by cases h.2.2), if_pos (.inr ho)]
            clear HP3 HP4 ho
            go_wp2_with fail
            refine (HS.out _ HB3.out).mono ?_
            rintro e w3 ⟨rfl, h3⟩
            have HB4 := Lib.hid (HB3.out.trans (h3.mono HB3.out.size))
            clear h3 HS HB3 GN2
            go_wp2
            go_ret
            exact ⟨rfl, HB4.out⟩
      · have hm1 : (master == -1) = false := by simpa using hm
        obtain rfl : r = st := by rw [HP3.out, if_neg (fun h => hm h.1), if_pos (.inl hm)]
        clear HP3 hm
        go_wp2_with fail
        refine (HS.out _ HB3.out).mono ?_
        rintro e w3 ⟨rfl, h3⟩
        have HB4 := Lib.hid (HB3.out.trans (h3.mono HB3.out.size))
        clear h3 HS HB3 GN2
        go_wp2
        go_ret
        exact ⟨rfl, HB4.out⟩
end Go.Proofs.YtijploopgmbhfaaDoor.G
