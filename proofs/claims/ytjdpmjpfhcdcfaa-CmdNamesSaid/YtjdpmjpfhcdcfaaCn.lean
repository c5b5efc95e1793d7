/- The walk of CmdNames. No conditions. -/
import Derived.Test.YtjdpmjpfhcdcfaaGNames
import Derived.Test.YtjdpmjpfhcdcfaaPK
import Derived.Test.YtjdpmjpfhcdcfaaG4
import Derived.Test.YtjdpmjpfhcdcfaaG8
import Derived.Test.YtjdpmjpfhcdcfaaCm
import Derived.Outline
import Derived.Test.YtjdpmjpfhcdcfaaCavR
namespace Go.Proofs.Ytjdpmjpfhcdcfaa.Pure
open Go.RowKit Go.Pk Go.Cav Go.Proofs.Ytjdpmjpfhcdcfaa.G

/-- the names, written out -/
def namesC : List ByteArray := [
  ⟨#[65, 80, 80, 69, 78, 68]⟩,
  ⟨#[68, 69, 67, 82]⟩,
  ⟨#[68, 69, 67, 82, 66, 89]⟩,
  ⟨#[68, 69, 76]⟩,
  ⟨#[69, 88, 73, 83, 84, 83]⟩,
  ⟨#[69, 88, 80, 73, 82, 69]⟩,
  ⟨#[71, 69, 84]⟩,
  ⟨#[71, 69, 84, 82, 65, 78, 71, 69]⟩,
  ⟨#[71, 69, 84, 83, 69, 84]⟩,
  ⟨#[72, 68, 69, 76]⟩,
  ⟨#[72, 69, 88, 73, 83, 84, 83]⟩,
  ⟨#[72, 71, 69, 84]⟩,
  ⟨#[72, 71, 69, 84, 65, 76, 76]⟩,
  ⟨#[72, 73, 78, 67, 82, 66, 89]⟩,
  ⟨#[72, 75, 69, 89, 83]⟩,
  ⟨#[72, 76, 69, 78]⟩,
  ⟨#[72, 77, 71, 69, 84]⟩,
  ⟨#[72, 83, 69, 84]⟩,
  ⟨#[72, 86, 65, 76, 83]⟩,
  ⟨#[73, 78, 67, 82]⟩,
  ⟨#[73, 78, 67, 82, 66, 89]⟩,
  ⟨#[76, 73, 78, 68, 69, 88]⟩,
  ⟨#[76, 76, 69, 78]⟩,
  ⟨#[76, 80, 79, 80]⟩,
  ⟨#[76, 80, 85, 83, 72]⟩,
  ⟨#[76, 82, 65, 78, 71, 69]⟩,
  ⟨#[76, 82, 69, 77]⟩,
  ⟨#[76, 83, 69, 84]⟩,
  ⟨#[76, 84, 82, 73, 77]⟩,
  ⟨#[77, 71, 69, 84]⟩,
  ⟨#[77, 83, 69, 84]⟩,
  ⟨#[77, 83, 69, 84, 78, 88]⟩,
  ⟨#[80, 69, 82, 83, 73, 83, 84]⟩,
  ⟨#[80, 73, 78, 71]⟩,
  ⟨#[82, 69, 78, 65, 77, 69]⟩,
  ⟨#[82, 80, 79, 80]⟩,
  ⟨#[82, 80, 85, 83, 72]⟩,
  ⟨#[83, 65, 68, 68]⟩,
  ⟨#[83, 67, 65, 82, 68]⟩,
  ⟨#[83, 68, 73, 70, 70]⟩,
  ⟨#[83, 69, 84]⟩,
  ⟨#[83, 69, 84, 69, 88]⟩,
  ⟨#[83, 69, 84, 78, 88]⟩,
  ⟨#[83, 69, 84, 82, 65, 78, 71, 69]⟩,
  ⟨#[83, 73, 78, 84, 69, 82]⟩,
  ⟨#[83, 73, 83, 77, 69, 77, 66, 69, 82]⟩,
  ⟨#[83, 77, 69, 77, 66, 69, 82, 83]⟩,
  ⟨#[83, 77, 79, 86, 69]⟩,
  ⟨#[83, 80, 79, 80]⟩,
  ⟨#[83, 82, 69, 77]⟩,
  ⟨#[83, 84, 82, 76, 69, 78]⟩,
  ⟨#[83, 85, 78, 73, 79, 78]⟩,
  ⟨#[84, 84, 76]⟩,
  ⟨#[84, 89, 80, 69]⟩]
theorem rise_ext : ∀ a b : List (List UInt8), a.Pairwise (fun x y => Op.bytesLess x y = true) → b.Pairwise (fun x y => Op.bytesLess x y = true) → (∀ x, x ∈ a ↔ x ∈ b) → a = b
  | [], [], _, _, _ => rfl
  | [], y :: b, _, _, h => absurd ((h y).2 (by simp)) (by simp)
  | x :: a, [], _, _, h => absurd ((h x).1 (by simp)) (by simp)
  | x :: a, y :: b, ha, hb, h => by
    obtain ⟨a1, a2⟩ := List.pairwise_cons.1 ha
    obtain ⟨b1, b2⟩ := List.pairwise_cons.1 hb
    have irr : ∀ z : List UInt8, ¬ Op.bytesLess z z = true := fun z => by rw [less_irrefl]; simp
    have hxy : x = y := by
      rcases List.mem_cons.1 ((h x).1 (by simp)) with e | e
      · exact e
      · rcases List.mem_cons.1 ((h y).2 (by simp)) with f | f
        · exact f.symm
        · exact (irr _ (less_trans _ _ _ (b1 x e) (a1 y f))).elim
    subst hxy
    congr 1
    refine rise_ext a b a2 b2 fun z => ⟨fun hz => ?_, fun hz => ?_⟩
    · rcases List.mem_cons.1 ((h z).1 (List.mem_cons_of_mem _ hz)) with e | e
      · subst e; exact (irr _ (a1 z hz)).elim
      · exact e
    · rcases List.mem_cons.1 ((h z).2 (List.mem_cons_of_mem _ hz)) with e | e
      · subst e; exact (irr _ (b1 z hz)).elim
      · exact e
def riseB : List (List UInt8) → Bool
  | [] => true
  | [_] => true
  | x :: y :: l => Op.bytesLess x y && riseB (y :: l)
theorem rise_of : ∀ l : List (List UInt8), riseB l = true → l.Pairwise (fun x y => Op.bytesLess x y = true)
  | [], _ => List.Pairwise.nil
  | [x], _ => List.pairwise_singleton _ _
  | x :: y :: l, h => by
    simp only [riseB, Bool.and_eq_true] at h
    have ih := rise_of (y :: l) h.2
    refine List.pairwise_cons.2 ⟨fun z hz => ?_, ih⟩
    rcases List.mem_cons.1 hz with rfl | e
    · exact h.1
    · exact less_trans _ _ _ h.1 ((List.pairwise_cons.1 ih).1 z e)
def allIn (a b : List (List UInt8)) : Bool := a.all fun x => b.any fun y => x == y
theorem allIn_of {a b : List (List UInt8)} (h : allIn a b = true) : ∀ x, x ∈ a → x ∈ b := fun x hx => by
  have := List.all_eq_true.1 h x hx
  obtain ⟨y, h1, h2⟩ := List.any_eq_true.1 this
  rw [beq_iff_eq.1 h2]; exact h1
theorem names_rise : riseB (namesC.map ByteArray.toList) = true := by decide +kernel
theorem names_in1 : allIn ((nmL specL).map ByteArray.toList) (namesC.map ByteArray.toList) = true := by decide +kernel
theorem names_in2 : allIn (namesC.map ByteArray.toList) ((nmL specL).map ByteArray.toList) = true := by decide +kernel
theorem strict_of {l : List (List UInt8)} (h : l.Pairwise (fun x y => Op.bytesLess y x = false)) (hn : l.Nodup) : l.Pairwise (fun x y => Op.bytesLess x y = true) := by
  refine (h.and hn).imp ?_
  rintro a b ⟨h1, h2⟩
  rcases less_total a b with e | e | e
  · exact e
  · exact absurd e h2
  · rw [h1] at e; cases e
def onceB : List (List UInt8) → Bool
  | [] => true
  | x :: l => (!l.any fun y => x == y) && onceB l
theorem nodup_of : ∀ l : List (List UInt8), onceB l = true → l.Nodup
  | [], _ => List.nodup_nil
  | x :: l, h => by
    simp only [onceB, Bool.and_eq_true, Bool.not_eq_true'] at h
    refine List.nodup_cons.2 ⟨fun hx => ?_, nodup_of l h.2⟩
    have := List.any_eq_false.1 h.1 x hx
    simp at this
theorem names_once : onceB ((nmL specL).map ByteArray.toList) = true := by decide +kernel
theorem names_sort : sortL (nmL specL) = namesC.map ByteArray.toList := by
  have r := rise_of _ names_rise
  have hp := sortL_perm (nmL specL)
  have m : ∀ x, x ∈ (nmL specL).map ByteArray.toList ↔ x ∈ namesC.map ByteArray.toList := fun x => ⟨allIn_of names_in1 x, allIn_of names_in2 x⟩
  have hn := nodup_of _ names_once
  refine rise_ext _ _ (strict_of (sortL_up _) (hp.nodup_iff.2 hn)) r fun x => ?_
  rw [hp.mem_iff, m]
theorem names_eq : namesP = namesC := by
  unfold namesP
  rw [names_sort, List.map_map]
  have : (ofL ∘ ByteArray.toList) = id := funext fun x => ofL_toList x
  rw [this, List.map_id]

end Go.Proofs.Ytjdpmjpfhcdcfaa.Pure
namespace Go.Proofs.Ytjdpmjpfhcdcfaa
open Go.RowKit Go.Shelf Go.Cav Go.Proofs.Ytjdpmjpfhcdcfaa.G Go.Proofs.Ytjdpmjpfhcdcfaa.Pure Go.Proofs.YtjdpmjpfhcdcfaaW Go.Proofs.YtjdpmjpfhcdcfaaW.PrintWords
attribute [local go_sem] Oper.semAt_some

theorem refNames_f : caravanref1_Names.f 4000 = some namesC := by decide +kernel
theorem texts_names : caravanref1_Texts.f 100 namesC namesC = some true := by decide +kernel
theorem names_vany (w : World) : Calls Try.prog 17 #[] w fun e w' => ∃ g cap, e = .returned (.slice (some ⟨g, 0, none⟩) 54 cap) ∧ 54 ≤ cap ∧ w.heap.size ≤ g ∧ g < w'.heap.size ∧ Kd.C Kd.string w' (some ⟨g, 0, none⟩) 54 namesC ∧ (∀ j (h : j < namesC.length), w'.cell? ⟨g, j, none⟩ = some (.string namesC[j])) ∧ Below w.heap.size w w' := by
  refine (names_any w).mono ?_
  rintro e w' ⟨g, cap, rfl, hcap, hg, hH, hB⟩
  have hl : (sortL (nmL specL)).length = 54 := by rw [sortL_length, nmL_length, specL_length]
  have hv := V_cells (w := w') (B := w.heap.size) (cap := cap) (by omega) (by omega) hg hH
  have e1 : (sortL (nmL specL)).map ofL = namesC := names_eq
  have hc : ∀ j (h : j < namesC.length), w'.cell? ⟨g, j, none⟩ = some (.string namesC[j]) := by
    intro j h
    have := holds_cells hH j (by rw [hl]; exact h)
    rw [this]
    have hj : j < (sortL (nmL specL)).length := by rw [hl]; exact h
    have e2 : namesC[j]? = some (ofL ((sortL (nmL specL))[j]'hj)) := by rw [← e1, List.getElem?_map, List.getElem?_eq_getElem (show j < (sortL (nmL specL)).length by rw [hl]; exact h)]; rfl
    rw [List.getElem?_eq_getElem h] at e2
    rw [Option.some.inj e2]
  have hlt := World.block_lt_of_cell? w' _ (hc 0 (by decide))
  rw [e1] at hv
  exact ⟨g, cap, rfl, hcap, hg, hlt, (Kd.V_reads' hv).2.2, hc, hB⟩

def okName (s : ByteArray) : Bool := decide (s.size ≤ 20) && (s.data.toList.all fun c => decide (65 ≤ c.toNat ∧ c.toNat ≤ 90)) &&
  (match specL.find? (fun x => x.nm.toList == s.toList) with | some x => x.nm.toList == s.toList | none => false) && (findP (s ++ ⟨#[90]⟩)).isNone
theorem okNames : namesC.all okName = true := by decide +kernel
theorem names_all (s : ByteArray) (h : s ∈ namesC) : s.size ≤ 20 ∧ (∀ c ∈ s.data.toList, 65 ≤ c.toNat ∧ c.toNat ≤ 90) ∧ (∃ x, specL.find? (fun x => x.nm.toList == s.toList) = some x ∧ x.nm = s) ∧ findP (s ++ ⟨#[90]⟩) = none := by
  have := List.all_eq_true.1 okNames s h
  simp only [okName, Bool.and_eq_true, decide_eq_true_eq] at this
  obtain ⟨⟨⟨h1, h2⟩, h3⟩, h4⟩ := this
  refine ⟨h1, fun c hc => by simpa using List.all_eq_true.1 h2 c hc, ?_, by simpa using h4⟩
  split at h3
  · rename_i x hx
    exact ⟨x, hx, Go.Pk.toList_inj (beq_iff_eq.1 h3)⟩
  · cases h3
theorem awakeN : caravanlaw4_awake.f = some true := by decide +kernel
def lowC (c : UInt8) : UInt8 := UInt8.ofNat (c.toNat + 32)
def lows (xs : List UInt8) (l : List Bool) : List UInt8 := xs.mapIdx fun k c => if l.getD k false = true then lowC c else c
theorem lows_length (xs : List UInt8) (l : List Bool) : (lows xs l).length = xs.length := by simp [lows]
theorem lows_at (xs : List UInt8) (l : List Bool) (k : Nat) (h : k < (lows xs l).length) : (lows xs l)[k] = if l.getD k false = true then lowC (xs[k]'(by rw [lows_length] at h; exact h)) else xs[k]'(by rw [lows_length] at h; exact h) := by simp [lows]
theorem upC_lowC (c : UInt8) (h : 65 ≤ c.toNat ∧ c.toNat ≤ 90) : upC (lowC c) = c := by
  have e : (lowC c).toNat = c.toNat + 32 := by unfold lowC; rw [UInt8.toNat_ofNat', Nat.mod_eq_of_lt (by omega)]
  unfold upC
  rw [if_pos (by omega), e, Nat.add_sub_cancel, UInt8.ofNat_toNat]
theorem upC_self (c : UInt8) (h : 65 ≤ c.toNat ∧ c.toNat ≤ 90) : upC c = c := by
  unfold upC; rw [if_neg (by omega)]
theorem upB_lows (s : ByteArray) (l : List Bool) (h : ∀ c ∈ s.data.toList, 65 ≤ c.toNat ∧ c.toNat ≤ 90) : upB ⟨(lows s.data.toList l).toArray⟩ = s := by
  apply Go.Pk.toList_inj
  rw [Go.Pk.toList_data, Go.Pk.toList_data]
  show (lows s.data.toList l).map upC = s.data.toList
  refine List.ext_getElem (by rw [List.length_map, lows_length]) fun k h1 h2 => ?_
  rw [List.getElem_map, lows_at]
  have := h _ (List.getElem_mem h2)
  split
  · exact upC_lowC _ this
  · exact upC_self _ this
set_option maxRecDepth 100000 in
set_option maxHeartbeats 4000000 in
theorem cmdNames_walk0 {W : World} (a0 : Int) (w0 : (Lit.int .u8 a0).wf = true) (v1 : Value) (l1 : List Bool) (A1 : Option Addr) (c1 : Nat) (hv : v1 = .slice A1 l1.length c1) (hc1 : l1.length ≤ c1) (hC : Kd.C Kd.bool W A1 l1.length l1) :
    Calls Try.prog 5 #[.int .u8 a0, v1] W fun e w' => e = .returned (.bool true) ∧ Below W.heap.size W w' := by
  subst hv
  have b0 := Go.Pk.wf_u8 w0
  obtain ⟨m, rfl⟩ := Int.eq_ofNat_of_zero_le b0.1
  have HC := Lib.hid hC
  clear hC
  go_enter Try.func5, Try.ntmps5
  go_wp2_with fail
  refine (names_vany W).mono ?_
  rintro e w2 ⟨g, cap, rfl, hcap, hg, hgl, hCn, hcell, hB⟩
  have HCn := Lib.hid hCn
  have Hcell := Lib.hid hcell
  have HB := Lib.hid hB
  clear hCn hcell hB
  go_wp2_with fail
  refine (caravanref1_Names.calls 4000 namesC _ refNames_f).mono ?_
  rintro e w3 ⟨v3, rfl, hR3, hB3⟩
  obtain ⟨A3, c3, rfl⟩ := Kd.R_slice hR3
  obtain ⟨_, q2, q3⟩ := Kd.R_reads' hR3
  have hC2 := Kd.C_below HCn.out hB3
  clear hR3
  go_wp2_with fail
  refine (caravanref1_Texts.calls 100 (some ⟨g, 0, none⟩) cap namesC A3 c3 namesC true w3 hC2 hcap q3 q2 texts_names).mono ?_
  rintro e w4' ⟨rfl, ⟨nd, rfl⟩⟩
  obtain ⟨w4, hw4⟩ : ∃ w4, w4 = w3.drewN nd := ⟨_, rfl⟩
  have hB4 : Below W.heap.size W w4 := by rw [hw4]; exact pw_below_drewN (HB.out.trans (hB3.mono HB.out.size)) nd
  obtain ⟨j0, hj0⟩ : ∃ j0, j0 = m % 54 := ⟨_, rfl⟩
  have hj54 : j0 < namesC.length := by rw [hj0]; exact Nat.mod_lt _ (by decide)
  obtain ⟨s, hs⟩ : ∃ s, s = namesC[j0] := ⟨_, rfl⟩
  have hcs : w4.cell? ⟨g, j0, none⟩ = some (.string s) := by
    rw [hw4, World.cell?_drewN, hs]
    exact pw_cell_below hB3 (Hcell.out j0 hj54)
  have hmem : s ∈ namesC := by rw [hs]; exact List.getElem_mem hj54
  rw [← hw4]
  rw [hj0] at hcs
  have p0 : 0 ≤ (m : Int) % 54 := by omega
  have p1 : (m : Int) % 54 < 54 := by omega
  have p2 : ((m : Int) % 54).toNat = j0 := by omega
  have hsz := hB4.size
  have HB4 := Lib.hid hB4
  have Hmem := Lib.hid hmem
  clear hC2 q2 q3 hw4 hB3 hB4 hmem hs hj54 HCn Hcell HB hgl
  obtain ⟨z1, z2, z3, z4⟩ := names_all s Hmem.out
  have hc := run_bytes_of_string (P := Try.prog) w4 9 37 5 s Try.underlying9 Try.underlying37 Try.underlying5
  generalize grownCap w4 s.size 0 5 = cp at hc
  generalize hw5 : w4.drew.alloc _ = w5 at hc
  have Z2 := Lib.hid z2
  have Z3 := Lib.hid z3
  have Z4 := Lib.hid z4
  clear z2 z3 z4
  have bfr : ∀ k, k < s.size → w5.frozen? ⟨w4.heap.size, k, none⟩ = false := by
    intro k hk
    rw [← hw5]
    have := World.frozen?_alloc_mark w4.drew (bytesRow s cp) 5 (bytesRow s cp).size ((bytesRow s cp).size + 1) k
    refine Eq.trans this ?_
    have hb := bytesRow_at s cp k hk
    have hlt := (Array.getElem?_eq_some_iff.1 hb).1
    rw [decide_eq_false (by omega)]; rfl
  have bce : ∀ k (hk : k < s.data.toList.length), w5.cell? ⟨w4.heap.size, k, none⟩ = some (B8 s.data.toList[k]) := by
    intro k hk
    rw [← hw5]
    have hk' : k < s.data.size := by rw [Array.length_toList] at hk; exact hk
    have hb := bytesRow_at s cp k hk'
    have hh : (w4.drew.alloc (.cells (bytesRow s cp) 5 ((bytesRow s cp).size, (bytesRow s cp).size + 1))).heap[w4.heap.size]? = some (.cells (bytesRow s cp) 5 ((bytesRow s cp).size, (bytesRow s cp).size + 1)) := by
      show (w4.heap.push _)[w4.heap.size]? = _
      simp
    unfold World.cell?
    rw [hh]
    simp only
    exact hb
  have hB5 : Below W.heap.size W w5 := by
    rw [← hw5]
    exact ((Stir.refl (fun _ => False) w4).drew.alloc _).below (Nat.le_refl _) (fun _ h => h.elim) |> fun h => HB4.out.trans (h.mono hsz)
  have HF5 := Lib.hid bfr
  have HE5 := Lib.hid bce
  have HB5 := Lib.hid hB5
  clear bfr bce hB5 HB4 hw5
  generalize hbk : w4.heap.size = bk at hc HF5 HE5 hsz
  clear hbk
  go_wp2_with fail
  go_loopw [8] (fun i wr => ∃ j : Nat, j ≤ s.size ∧ i = .int .i64 (j : Int) ∧ Below W.heap.size W wr ∧ (∀ k, k < s.size → wr.frozen? ⟨bk, k, none⟩ = false) ∧ ∀ k (hk : k < s.data.toList.length), wr.cell? ⟨bk, k, none⟩ = some (B8 (if k < j ∧ l1.getD k false = true then lowC (s.data.toList[k]) else s.data.toList[k]))) (fun i _ => (s.size - intOf i).toNat)
  case atStart =>
    refine ⟨0, by omega, rfl, HB5.out, HF5.out, fun k hk => ?_⟩
    rw [if_neg (by omega)]
    exact HE5.out k hk
  case round =>
    obtain ⟨j, hj, rfl, hB, hfr, hcell⟩ := hrel
    have HF := Lib.hid hfr
    clear hfr
    have HI := Lib.hid hcell
    have HBB := Lib.hid hB
    clear hcell hB
    by_cases hjj : j < s.size ∧ j < l1.length
    · obtain ⟨hjs, hjt⟩ := hjj
      have hjl : j < s.data.toList.length := by rw [Array.length_toList]; exact hjs
      have j1 : (j : Int) < (s.size : Int) := by omega
      have j2 : (j : Int) < (l1.length : Int) := by omega
      have j0 : (0 : Int) ≤ (j : Int) := by omega
      have jc : j < c1 := by omega
      have cj := HI.out j hjl
      have fj := HF.out j hjs
      rw [if_neg (by omega)] at cj
      have hcell := List.getElem_mem hjl
      have hbnd := Z2.out _ hcell
      clear hcell
      generalize hce : s.data.toList[j] = c at cj hbnd
      have e64 : wrap64 ((j : Int) + 1) = (j : Int) + 1 := by unfold wrap64; omega
      have E64 := Lib.hid e64
      clear e64
      have h65 : (65 : Int) ≤ (c.toNat : Int) := by omega
      have h90 : (c.toNat : Int) ≤ 90 := by omega
      obtain ⟨ad, ead, hx⟩ := Kd.at_bool (Kd.C_below HC.out HBB.out) (j : Int) j0 j2
      have ej : rdOf false l1 (j : Int) = l1.getD j false := by unfold rdOf; rw [Int.toNat_natCast]
      rw [ej] at hx
      clear ej
      cases ead
      by_cases hb : l1.getD j false = true
      · rw [hb, Int.toNat_natCast] at hx
        go_wp2_with fail
        go_roundw
        case rel =>
          refine ⟨j + 1, by omega, by simp, ?_, fun k hk => by rw [World.frozen?_setCell]; exact HF.out k hk, fun k hk => ?_⟩
          · exact (((Stir.of_below HBB.out (fun k => W.heap.size ≤ k)).setCell (fun h => hsz) _).below (Nat.le_refl _) (fun k hk => hk))
          · by_cases hkj : k = j
            · subst hkj
              rw [World.cell?_setCell_same (h := cj), if_pos ⟨by omega, hb⟩]
              subst hce
              refine congrArg some ?_
              show Value.int .u8 _ = Value.int .u8 _
              unfold lowC
              congr 1
              rw [UInt8.toNat_ofNat', Nat.mod_eq_of_lt (by omega)]
              omega
            · rw [World.cell?_setCell_other (h := fun h => hkj (by injection h with _ h _; exact h.symm)), HI.out k hk]
              by_cases hlt : k < j ∧ l1.getD k false = true
              · rw [if_pos hlt, if_pos ⟨by omega, hlt.2⟩]
              · rw [if_neg hlt, if_neg (fun h => hlt ⟨by omega, h.2⟩)]
        case measure => simp [intOf]; omega
      · rw [Bool.eq_false_iff.2 hb, Int.toNat_natCast] at hx
        go_wp2_with fail
        go_roundw
        case rel =>
          refine ⟨j + 1, by omega, by simp, HBB.out, HF.out, fun k hk => ?_⟩
          rw [HI.out k hk]
          by_cases hlt : k < j ∧ l1.getD k false = true
          · rw [if_pos hlt, if_pos ⟨by omega, hlt.2⟩]
          · rw [if_neg hlt, if_neg (fun h => hlt ⟨by
              by_cases hkj : k = j
              · subst hkj; exact absurd h.2 hb
              · omega, h.2⟩)]
        case measure => simp [intOf]; omega
    · have hall : ∀ k (hk : k < s.data.toList.length), wr.cell? ⟨bk, k, none⟩ = some (B8 (if l1.getD k false = true then lowC (s.data.toList[k]) else s.data.toList[k])) := by
        intro k hk
        rw [HI.out k hk]
        have hk' : k < s.size := by rw [Array.length_toList] at hk; exact hk
        by_cases hlt : k < j
        · simp only [hlt, true_and]
        · have : l1.length ≤ k := by omega
          have e : l1.getD k false = false := by rw [List.getD_eq_getElem?_getD, List.getElem?_eq_none this]; rfl
          simp only [e, Bool.false_eq_true, and_false, if_false]
      obtain ⟨L, hL⟩ : ∃ L, L = lows s.data.toList l1 := ⟨_, rfl⟩
      have hback := run_convert_bytes_back (P := Try.prog) wr 37 9 5 ⟨bk, 0, none⟩ cp L Try.underlying37 Try.underlying5 Try.underlying9 (by
        intro k hk
        subst hL
        have hk' : k < s.data.toList.length := by rw [lows_length] at hk; exact hk
        have := hall k hk'
        have e : (⟨bk, 0, none⟩ : Addr).add k = ⟨bk, k, none⟩ := by simp [Addr.add]; exact fun h => h.symm
        rw [e, this, lows_at])
      have el : L.length = s.size := by rw [hL, lows_length, Array.length_toList]; rfl
      rw [el] at hback
      have hup : upB ⟨L.toArray⟩ = s := by rw [hL]; exact upB_lows s l1 Z2.out
      have hzL : (⟨L.toArray⟩ : ByteArray).size = s.size := by show L.toArray.size = _; rw [List.size_toArray, el]
      have hfind : ∃ x, findP ⟨L.toArray⟩ = some x ∧ x.nm = s := by
        unfold findP; rw [hup]; exact Z3.out
      generalize (⟨L.toArray⟩ : ByteArray) = sl at hback hup hzL hfind
      have HFind := Lib.hid hfind
      clear hfind hup hL el hall HF HI
      have hxx : (s.size : Int) ≤ (j : Int) ∨ ((j : Int) < (s.size : Int) ∧ (l1.length : Int) ≤ (j : Int)) := by omega
      rcases hxx with j1 | ⟨j1, j2⟩
      all_goals
        go_wp2_with fail
        refine (find_any sl wr (by omega)).mono ?_
        rintro e w6 ⟨rfl, hB6⟩
        obtain ⟨⟨s0, s1, s2, s3, s4, s5, s6⟩, hx1, hx2⟩ := HFind.out
        have hx2 : s0 = s := hx2
        subst hx2
        rw [hx1]
        dsimp only [Option.getD_some, Option.isSome_some, encS]
        clear hx1
        have HBC := Lib.hid (HBB.out.trans (hB6.mono HBB.out.size))
        clear hB6
        go_upto_region 12 with ((with_reducible refine gate_dst (N := 9) rfl ?_); (try (refine gate_guard (by rfl) ?_; dsimp only)); refine box_event ?hg (N := 9) ?hd (cs := #[.string (⟨#[]⟩ : ByteArray), .int .i64 0, .int .i64 0, .int .i64 0, .int .i64 0, .int .i64 0, .bool false]) (t := 26) ?hr ?_; (case hd => rfl); (case hg => rfl); (case hr => first | (go_simp; done) | (go_simp; rfl)); intro gb hg w7 hbox hb; have BK := Aside0.mk hbox; have HBD := Lib.hid (HBC.out.trans (hb.mono HBC.out.size)); have GW : W.heap.size ≤ gb := by { rw [hg]; exact HBC.out.size }; have gbl := Lib.hid hg; have gbb := Lib.hid hb; clear hg hb hbox; have qc0 : w7.cell? ⟨gb, 0, none⟩ = some (.string (⟨#[]⟩ : ByteArray)) := (blk_cell BK.out 0).trans rfl; have qf0 := blk_frozen BK.out 0; have qc1 : w7.cell? ⟨gb, 1, none⟩ = some (.int .i64 0) := (blk_cell BK.out 1).trans rfl; have qf1 := blk_frozen BK.out 1; have qc2 : w7.cell? ⟨gb, 2, none⟩ = some (.int .i64 0) := (blk_cell BK.out 2).trans rfl; have qf2 := blk_frozen BK.out 2; have qc3 : w7.cell? ⟨gb, 3, none⟩ = some (.int .i64 0) := (blk_cell BK.out 3).trans rfl; have qf3 := blk_frozen BK.out 3; have qc4 : w7.cell? ⟨gb, 4, none⟩ = some (.int .i64 0) := (blk_cell BK.out 4).trans rfl; have qf4 := blk_frozen BK.out 4; have qc5 : w7.cell? ⟨gb, 5, none⟩ = some (.int .i64 0) := (blk_cell BK.out 5).trans rfl; have qf5 := blk_frozen BK.out 5; have qc6 : w7.cell? ⟨gb, 6, none⟩ = some (.bool false) := (blk_cell BK.out 6).trans rfl; have qf6 := blk_frozen BK.out 6)
        clear qc0 qf0 qc1 qf1 qc2 qf2 qc3 qf3 qc4 qf4 qc5 qf5 qc6 qf6
        have HB80 : Below W.heap.size W (World.setCell (World.setCell (World.setCell (World.setCell (World.setCell (World.setCell (World.setCell w7 ⟨gb, 0, none⟩ (.string s0)) ⟨gb, 1, none⟩ (.int .i64 s1)) ⟨gb, 2, none⟩ (.int .i64 s2)) ⟨gb, 3, none⟩ (.int .i64 s3)) ⟨gb, 4, none⟩ (.int .i64 s4)) ⟨gb, 5, none⟩ (.int .i64 s5)) ⟨gb, 6, none⟩ (.bool s6)) := (((((((Stir.of_below HBD.out (fun k => W.heap.size ≤ k)).setCell (fun _ => GW) _).setCell (fun _ => GW) _).setCell (fun _ => GW) _).setCell (fun _ => GW) _).setCell (fun _ => GW) _).setCell (fun _ => GW) _).setCell (fun _ => GW) _ |>.below (Nat.le_refl _) (fun _ h => h)
        have BK80 : (World.setCell (World.setCell (World.setCell (World.setCell (World.setCell (World.setCell (World.setCell w7 ⟨gb, 0, none⟩ (.string s0)) ⟨gb, 1, none⟩ (.int .i64 s1)) ⟨gb, 2, none⟩ (.int .i64 s2)) ⟨gb, 3, none⟩ (.int .i64 s3)) ⟨gb, 4, none⟩ (.int .i64 s4)) ⟨gb, 5, none⟩ (.int .i64 s5)) ⟨gb, 6, none⟩ (.bool s6)).heap[gb]? = some (.cells #[.string s0, .int .i64 s1, .int .i64 s2, .int .i64 s3, .int .i64 s4, .int .i64 s5, .bool s6] 26 (0, 0)) := by
          refine blk_put (cs := #[.string s0, .int .i64 s1, .int .i64 s2, .int .i64 s3, .int .i64 s4, .int .i64 s5, .bool false]) ?_ 6 _ rfl
          refine blk_put (cs := #[.string s0, .int .i64 s1, .int .i64 s2, .int .i64 s3, .int .i64 s4, .int .i64 0, .bool false]) ?_ 5 _ rfl
          refine blk_put (cs := #[.string s0, .int .i64 s1, .int .i64 s2, .int .i64 s3, .int .i64 0, .int .i64 0, .bool false]) ?_ 4 _ rfl
          refine blk_put (cs := #[.string s0, .int .i64 s1, .int .i64 s2, .int .i64 0, .int .i64 0, .int .i64 0, .bool false]) ?_ 3 _ rfl
          refine blk_put (cs := #[.string s0, .int .i64 s1, .int .i64 0, .int .i64 0, .int .i64 0, .int .i64 0, .bool false]) ?_ 2 _ rfl
          refine blk_put (cs := #[.string s0, .int .i64 0, .int .i64 0, .int .i64 0, .int .i64 0, .int .i64 0, .bool false]) ?_ 1 _ rfl
          refine blk_put (cs := #[.string (⟨#[]⟩ : ByteArray), .int .i64 0, .int .i64 0, .int .i64 0, .int .i64 0, .int .i64 0, .bool false]) ?_ 0 _ rfl
          exact BK.out
        generalize (World.setCell (World.setCell (World.setCell (World.setCell (World.setCell (World.setCell (World.setCell w7 ⟨gb, 0, none⟩ (.string s0)) ⟨gb, 1, none⟩ (.int .i64 s1)) ⟨gb, 2, none⟩ (.int .i64 s2)) ⟨gb, 3, none⟩ (.int .i64 s3)) ⟨gb, 4, none⟩ (.int .i64 s4)) ⟨gb, 5, none⟩ (.int .i64 s5)) ⟨gb, 6, none⟩ (.bool s6)) = w8 at HB80 BK80 ⊢
        have HB8 := Lib.hid HB80
        have BK8 := Lib.hid BK80
        clear HB80 BK80 HBD BK
        go_wp2_with fail
        refine (find_any _ w8 (by show (s0 ++ _).size ≤ _; rw [ByteArray.size_append]; have : (⟨#[90]⟩ : ByteArray).size = 1 := rfl; omega)).mono ?_
        rintro e w9 ⟨rfl, hB9⟩
        rw [Z4.out]
        dsimp only [Option.getD_none, Option.isSome_none, encS, zeroS]
        have hgb := (Array.getElem?_eq_some_iff.1 BK8.out).1
        have BK9 := Lib.hid ((hB9.block gb hgb).trans BK8.out)
        have HB9 := Lib.hid (HB8.out.trans (hB9.mono HB8.out.size))
        have hgb9 := Lib.hid (Nat.lt_of_lt_of_le hgb hB9.size)
        clear hB9 hgb
        go_upto_region 13 with ((with_reducible refine gate_dst (N := 11) rfl ?_); (try (refine gate_guard (by rfl) ?_; dsimp only)); refine box_event ?hg (N := 11) ?hd (cs := #[.string (⟨#[]⟩ : ByteArray), .int .i64 0, .int .i64 0, .int .i64 0, .int .i64 0, .int .i64 0, .bool false]) (t := 26) ?hr ?_; (case hd => rfl); (case hg => rfl); (case hr => first | (go_simp; done) | (go_simp; rfl)); intro gc hg wa hbox hb; have BA := Aside0.mk hbox; have HBA := Lib.hid (HB9.out.trans (hb.mono HB9.out.size)); have GC : W.heap.size ≤ gc := by { rw [hg]; exact HB9.out.size }; have gcl := Lib.hid hg; have gcb := Lib.hid hb; clear hg hb hbox; have rc0 : wa.cell? ⟨gc, 0, none⟩ = some (.string (⟨#[]⟩ : ByteArray)) := (blk_cell BA.out 0).trans rfl; have rf0 := blk_frozen BA.out 0; have rc1 : wa.cell? ⟨gc, 1, none⟩ = some (.int .i64 0) := (blk_cell BA.out 1).trans rfl; have rf1 := blk_frozen BA.out 1; have rc2 : wa.cell? ⟨gc, 2, none⟩ = some (.int .i64 0) := (blk_cell BA.out 2).trans rfl; have rf2 := blk_frozen BA.out 2; have rc3 : wa.cell? ⟨gc, 3, none⟩ = some (.int .i64 0) := (blk_cell BA.out 3).trans rfl; have rf3 := blk_frozen BA.out 3; have rc4 : wa.cell? ⟨gc, 4, none⟩ = some (.int .i64 0) := (blk_cell BA.out 4).trans rfl; have rf4 := blk_frozen BA.out 4; have rc5 : wa.cell? ⟨gc, 5, none⟩ = some (.int .i64 0) := (blk_cell BA.out 5).trans rfl; have rf5 := blk_frozen BA.out 5; have rc6 : wa.cell? ⟨gc, 6, none⟩ = some (.bool false) := (blk_cell BA.out 6).trans rfl; have rf6 := blk_frozen BA.out 6)
        have BKA := Lib.hid ((gcb.out.block gb hgb9.out).trans BK9.out)
        have hne : gb ≠ gc := by rw [gcl.out]; exact Nat.ne_of_lt hgb9.out
        clear rc0 rf0 rc1 rf1 rc2 rf2 rc3 rf3 rc4 rf4 rc5 rf5 rc6 rf6
        have HB8b0 : Below W.heap.size W (World.setCell (World.setCell (World.setCell (World.setCell (World.setCell (World.setCell (World.setCell wa ⟨gc, 0, none⟩ (.string (⟨#[]⟩ : ByteArray))) ⟨gc, 1, none⟩ (.int .i64 0)) ⟨gc, 2, none⟩ (.int .i64 0)) ⟨gc, 3, none⟩ (.int .i64 0)) ⟨gc, 4, none⟩ (.int .i64 0)) ⟨gc, 5, none⟩ (.int .i64 0)) ⟨gc, 6, none⟩ (.bool false)) := (((((((Stir.of_below HBA.out (fun k => W.heap.size ≤ k)).setCell (fun _ => GC) _).setCell (fun _ => GC) _).setCell (fun _ => GC) _).setCell (fun _ => GC) _).setCell (fun _ => GC) _).setCell (fun _ => GC) _).setCell (fun _ => GC) _ |>.below (Nat.le_refl _) (fun _ h => h)
        have BB80 : (World.setCell (World.setCell (World.setCell (World.setCell (World.setCell (World.setCell (World.setCell wa ⟨gc, 0, none⟩ (.string (⟨#[]⟩ : ByteArray))) ⟨gc, 1, none⟩ (.int .i64 0)) ⟨gc, 2, none⟩ (.int .i64 0)) ⟨gc, 3, none⟩ (.int .i64 0)) ⟨gc, 4, none⟩ (.int .i64 0)) ⟨gc, 5, none⟩ (.int .i64 0)) ⟨gc, 6, none⟩ (.bool false)).heap[gc]? = some (.cells #[.string (⟨#[]⟩ : ByteArray), .int .i64 0, .int .i64 0, .int .i64 0, .int .i64 0, .int .i64 0, .bool false] 26 (0, 0)) := by
          refine blk_put (cs := #[.string (⟨#[]⟩ : ByteArray), .int .i64 0, .int .i64 0, .int .i64 0, .int .i64 0, .int .i64 0, .bool false]) ?_ 6 _ rfl
          refine blk_put (cs := #[.string (⟨#[]⟩ : ByteArray), .int .i64 0, .int .i64 0, .int .i64 0, .int .i64 0, .int .i64 0, .bool false]) ?_ 5 _ rfl
          refine blk_put (cs := #[.string (⟨#[]⟩ : ByteArray), .int .i64 0, .int .i64 0, .int .i64 0, .int .i64 0, .int .i64 0, .bool false]) ?_ 4 _ rfl
          refine blk_put (cs := #[.string (⟨#[]⟩ : ByteArray), .int .i64 0, .int .i64 0, .int .i64 0, .int .i64 0, .int .i64 0, .bool false]) ?_ 3 _ rfl
          refine blk_put (cs := #[.string (⟨#[]⟩ : ByteArray), .int .i64 0, .int .i64 0, .int .i64 0, .int .i64 0, .int .i64 0, .bool false]) ?_ 2 _ rfl
          refine blk_put (cs := #[.string (⟨#[]⟩ : ByteArray), .int .i64 0, .int .i64 0, .int .i64 0, .int .i64 0, .int .i64 0, .bool false]) ?_ 1 _ rfl
          refine blk_put (cs := #[.string (⟨#[]⟩ : ByteArray), .int .i64 0, .int .i64 0, .int .i64 0, .int .i64 0, .int .i64 0, .bool false]) ?_ 0 _ rfl
          exact BA.out
        have BKB : (World.setCell (World.setCell (World.setCell (World.setCell (World.setCell (World.setCell (World.setCell wa ⟨gc, 0, none⟩ (.string (⟨#[]⟩ : ByteArray))) ⟨gc, 1, none⟩ (.int .i64 0)) ⟨gc, 2, none⟩ (.int .i64 0)) ⟨gc, 3, none⟩ (.int .i64 0)) ⟨gc, 4, none⟩ (.int .i64 0)) ⟨gc, 5, none⟩ (.int .i64 0)) ⟨gc, 6, none⟩ (.bool false)).heap[gb]? = some (.cells #[.string s0, .int .i64 s1, .int .i64 s2, .int .i64 s3, .int .i64 s4, .int .i64 s5, .bool s6] 26 (0, 0)) := by
          refine blk_far ?_ (by exact hne) _
          refine blk_far ?_ (by exact hne) _
          refine blk_far ?_ (by exact hne) _
          refine blk_far ?_ (by exact hne) _
          refine blk_far ?_ (by exact hne) _
          refine blk_far ?_ (by exact hne) _
          refine blk_far ?_ (by exact hne) _
          exact BKA.out
        generalize (World.setCell (World.setCell (World.setCell (World.setCell (World.setCell (World.setCell (World.setCell wa ⟨gc, 0, none⟩ (.string (⟨#[]⟩ : ByteArray))) ⟨gc, 1, none⟩ (.int .i64 0)) ⟨gc, 2, none⟩ (.int .i64 0)) ⟨gc, 3, none⟩ (.int .i64 0)) ⟨gc, 4, none⟩ (.int .i64 0)) ⟨gc, 5, none⟩ (.int .i64 0)) ⟨gc, 6, none⟩ (.bool false)) = wb at HB8b0 BB80 BKB ⊢
        have HB8b := Lib.hid HB8b0
        have BB8 := Lib.hid BB80
        clear HB8b0 BB80 HBA BA
        have k0 : wb.cell? ⟨gb, 0, none⟩ = some (.string s0) := (blk_cell BKB 0).trans rfl
        clear BKB
        go_wp2_with fail
        refine (caravanlaw4_awake.calls true _ awakeN).mono ?_
        rintro e wc ⟨rfl, hBc⟩
        go_wp2_with fail
        go_ret
        exact ⟨rfl, HB8b.out.trans (hBc.mono HB8b.out.size)⟩
theorem cmdNames_walk {W : World} (a0 : Int) (w0 : (Lit.int .u8 a0).wf = true) (v1 : Value) (l1 : List Bool) (h1 : rSlice 1 1 rBool W [v1] l1) :
    Calls Try.prog 5 #[.int .u8 a0, v1] W fun e w' => e = .returned (.bool true) ∧ Below W.heap.size W w' := by
  rcases h1 with ⟨h1, rfl⟩ | ⟨a, cap, h1, h2, h3, h4, hel⟩
  · cases h1
    exact cmdNames_walk0 a0 w0 _ [] none 0 rfl (by simp) ⟨rfl, by simp, fun h => by simp at h⟩
  · cases h1
    refine cmdNames_walk0 a0 w0 _ l1 (some a) cap rfl h2 ⟨rfl, by simp only [maxLen] at h4; omega, fun _ => ⟨a, rfl, fun j p hj => ?_⟩⟩
    obtain ⟨ci, q1, q2, q3⟩ := hel j p hj
    exact ⟨ci, q1, q3, q2⟩
end Go.Proofs.Ytjdpmjpfhcdcfaa
