/- route.missing over any rows. Conditions: none but what a slice's length bears. -/
import Derived.Test.YtijploopgmbhfaaDoorG0
import Derived.Test.YtijploopgmbhfaaDoorCavA
import Derived.Deep.DeepCutAuto
import Derived.WalkMore
namespace Go.Proofs.YtijploopgmbhfaaDoor.G
open Go.RowKit Go.Cav Go.Proofs.YtijploopgmbhfaaDoorW.PrintWords Go.Proofs.YtijploopgmbhfaaDoorW.PrintLast Go.Proofs.YtijploopgmbhfaaDoorW.PrintMore
attribute [local go_sem] Oper.semAt_some
/-- is there such a key? -/
def hasK (db : List S70) (k : ByteArray) : Bool := db.any (fun p => p.f0.toList == k.toList)
/-- how many keys there are not -/
def missN (db : List S70) (keys : List ByteArray) : Nat := keys.countP (fun k => !hasK db k)
theorem missN_le (db : List S70) (keys : List ByteArray) : missN db keys ≤ keys.length := List.countP_le_length
set_option maxRecDepth 100000 in
set_option maxHeartbeats 4000000 in
theorem missing_calls (A0 : Option Addr) (c0 : Nat) (l0 : List S70) (A1 : Option Addr) (c1 : Nat) (l1 : List ByteArray) (w : World) (hr0 : Kd.C k70 w A0 l0.length l0) (hr1 : Kd.C Kd.string w A1 l1.length l1) (h0 : l0.length ≤ 9000000000000000000) (h1 : l1.length ≤ 9000000000000000000) :
    Calls Tryd.prog 53 #[.slice A0 l0.length c0, .slice A1 l1.length c1] w fun e w' => e = .returned (.int .i64 (missN l0 l1 : Nat)) ∧ Below w.heap.size w w' := by
  have HR0 := Lib.hid hr0
  have HR1 := Lib.hid hr1
  have hu := Tryd.underlying70
  clear hr0 hr1
  go_enter Tryd.func53, Tryd.ntmps53
  go_wp2
  go_step3
  go_wp2
  go_step3
  go_wp2
  go_loopw [5, 12] (fun n i wr => ∃ (j m : Nat), j ≤ l1.length ∧ m ≤ j ∧ i = .int .i64 (j : Int) ∧ n = .int .i64 (m : Int) ∧ Below w.heap.size w wr ∧ Hid (m = (l1.take j).countP (fun k => !hasK l0 k))) (fun _ i _ => l1.length - (intOf i).toNat)
  case atStart => exact ⟨0, 0, by omega, by omega, rfl, rfl, Below.refl _ _, Lib.hid rfl⟩
  case round =>
    obtain ⟨j, m, hj, hmj, rfl, rfl, hB, hm⟩ := hrel
    have HB := Lib.hid hB
    by_cases hlt : j < l1.length
    · obtain ⟨ad, rfl, cj⟩ := Kd.at_string HR1.out (j : Int) (by omega) (by omega)
      rw [Int.toNat_natCast] at cj
      replace cj := (Stir.of_below hB (fun _ => False)).cell cj (fun e => e)
      have hx : rdOf ByteArray.empty l1 (j : Int) = l1[j] := by unfold rdOf; simp [hlt]
      rw [hx] at cj
      have hm2 : ∀ b, hasK l0 l1[j] = b → (l1.take (j + 1)).countP (fun k => !hasK l0 k) = if b then m else m + 1 := fun b hb => by
        rw [List.take_succ_eq_append_getElem hlt, List.countP_append, ← hm.out, List.countP_singleton, hb]; cases b <;> rfl
      have HM := Lib.hid hm2
      clear hm2 hm hx hB
      generalize l1[j] = x at cj HM
      have hltz : (j : Int) < (l1.length : Int) := by omega
      go_wp2
      go_loopw [18] (fun i wq => ∃ (k : Nat), k ≤ l0.length ∧ i = .int .i64 (k : Int) ∧ Below w.heap.size w wq ∧ Hid (∀ i, i < k → ∀ p, l0[i]? = some p → (p.f0.toList == x.toList) = false)) (fun i _ => l0.length - (intOf i).toNat)
      case atStart => exact ⟨0, by omega, rfl, HB.out, Lib.hid (fun i h => absurd h (Nat.not_lt_zero _))⟩
      case round =>
        obtain ⟨k, hk, rfl, hB2, hn⟩ := hrel
        have HB2 := Lib.hid hB2
        by_cases hlk : k < l0.length
        · obtain ⟨ae, A3, d3, A4, d4, rfl, e0, e1, e2, e3, e4, e5, -⟩ := at_T70 HR0.out (k : Int) (by omega) (by omega)
          rw [Int.toNat_natCast] at e0 e1 e2 e3 e4 e5
          have hk2 : rd_T70 l0 (k : Int) = l0[k] := by unfold rd_T70; simp [hlk]
          rw [hk2] at e0 e1 e2 e3 e4 e5
          replace e0 := (Stir.of_below hB2 (fun _ => False)).cell e0 (fun e => e)
          replace e1 := (Stir.of_below hB2 (fun _ => False)).cell e1 (fun e => e)
          replace e2 := (Stir.of_below hB2 (fun _ => False)).cell e2 (fun e => e)
          replace e3 := (Stir.of_below hB2 (fun _ => False)).cell e3 (fun e => e)
          replace e4 := (Stir.of_below hB2 (fun _ => False)).cell e4 (fun e => e)
          replace e5 := (Stir.of_below hB2 (fun _ => False)).cell e5 (fun e => e)
          have hg : l0[k]? = some l0[k] := List.getElem?_eq_getElem hlk
          have HG := Lib.hid hg
          have hltk : (k : Int) < (l0.length : Int) := by omega
          clear hk2 hB2 hg
          generalize l0[k] = p at e0 e1 e2 e3 e4 e5 HG
          have hB3 : ∀ o, Below w.heap.size w (wr.alloc o) := fun o => HB2.out.alloc HB2.out.size o
          have HB3 := Lib.hid hB3
          clear hB3
          cases hq : (p.f0.toList == x.toList) with
          | true =>
            have hh : hasK l0 x = true := List.any_eq_true.2 ⟨p, List.mem_of_getElem? HG.out, hq⟩
            have HH := Lib.hid (HM.out true hh)
            clear hh
            go_wp2
            exact ⟨⟨j + 1, m, by omega, by omega, by simp, rfl, HB3.out _, Lib.hid HH.out.symm⟩, by simp [intOf]; omega⟩
          | false =>
            have HQ := Lib.hid hq
            go_wp2
            exact ⟨⟨k + 1, by omega, by simp, HB3.out _, Lib.hid (fun i hi p' hp' => by
              by_cases e : i = k
              · subst e; rw [HG.out] at hp'; cases hp'; exact HQ.out
              · exact hn.out i (by omega) p' hp')⟩, by simp [intOf]; omega⟩
        · have hltk : ¬ (k : Int) < (l0.length : Int) := by omega
          obtain rfl : k = l0.length := by omega
          have hh : hasK l0 x = false := by
            unfold hasK
            rw [List.any_eq_false]
            intro p hp
            obtain ⟨i, hi, rfl⟩ := List.mem_iff_getElem.1 hp
            rw [hn.out i hi _ (List.getElem?_eq_getElem hi)]
            simp
          have HH := Lib.hid (HM.out false hh)
          clear hh hB2
          go_wp2
          exact ⟨⟨j + 1, m + 1, by omega, by omega, by simp, by simp, HB2.out, Lib.hid HH.out.symm⟩, by simp [intOf]; omega⟩
    · have hltz : ¬ (j : Int) < (l1.length : Int) := by omega
      obtain rfl : j = l1.length := by omega
      have hm2 : m = missN l0 l1 := by rw [hm.out, List.take_length]; rfl
      subst hm2
      clear hB
      go_wp2
      try rw [Exit.noGoto_ret]
      go_ret
      exact ⟨rfl, HB.out⟩
end Go.Proofs.YtijploopgmbhfaaDoor.G
