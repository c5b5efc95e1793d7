/- The plain law of CmdKeys: each of the 54 commands reckoned, with each number of words more. No conditions. -/
import Derived.Test.YtjdpmjpfhcdcfaaG10
import Derived.Test.YtjdpmjpfhcdcfaaPK
namespace Go.Proofs.Ytjdpmjpfhcdcfaa.Pure
open Go.RowKit Go.Pk Go.Cav Go.Proofs.Ytjdpmjpfhcdcfaa.G Go.Proofs.YtjdpmjpfhcdcfaaW.PrintWords Go.Proofs.YtjdpmjpfhcdcfaaW.PrintLast

/-- the names, written out -/
def namesC : List ByteArray := [
  ⟨#[65, 80, 80, 69, 78, 68]⟩,
  ⟨#[68, 69, 67, 82]⟩,
  ⟨#[68, 69, 67, 82, 66, 89]⟩,
  ⟨#[68, 69, 76]⟩,
  ⟨#[69, 88, 73, 83, 84, 83]⟩,
  ⟨#[69, 88, 80, 73, 82, 69]⟩,
  ⟨#[71, 69, 84]⟩,
  ⟨#[71, 69, 84, 82, 65, 78, 71, 69]⟩,
  ⟨#[71, 69, 84, 83, 69, 84]⟩,
  ⟨#[72, 68, 69, 76]⟩,
  ⟨#[72, 69, 88, 73, 83, 84, 83]⟩,
  ⟨#[72, 71, 69, 84]⟩,
  ⟨#[72, 71, 69, 84, 65, 76, 76]⟩,
  ⟨#[72, 73, 78, 67, 82, 66, 89]⟩,
  ⟨#[72, 75, 69, 89, 83]⟩,
  ⟨#[72, 76, 69, 78]⟩,
  ⟨#[72, 77, 71, 69, 84]⟩,
  ⟨#[72, 83, 69, 84]⟩,
  ⟨#[72, 86, 65, 76, 83]⟩,
  ⟨#[73, 78, 67, 82]⟩,
  ⟨#[73, 78, 67, 82, 66, 89]⟩,
  ⟨#[76, 73, 78, 68, 69, 88]⟩,
  ⟨#[76, 76, 69, 78]⟩,
  ⟨#[76, 80, 79, 80]⟩,
  ⟨#[76, 80, 85, 83, 72]⟩,
  ⟨#[76, 82, 65, 78, 71, 69]⟩,
  ⟨#[76, 82, 69, 77]⟩,
  ⟨#[76, 83, 69, 84]⟩,
  ⟨#[76, 84, 82, 73, 77]⟩,
  ⟨#[77, 71, 69, 84]⟩,
  ⟨#[77, 83, 69, 84]⟩,
  ⟨#[77, 83, 69, 84, 78, 88]⟩,
  ⟨#[80, 69, 82, 83, 73, 83, 84]⟩,
  ⟨#[80, 73, 78, 71]⟩,
  ⟨#[82, 69, 78, 65, 77, 69]⟩,
  ⟨#[82, 80, 79, 80]⟩,
  ⟨#[82, 80, 85, 83, 72]⟩,
  ⟨#[83, 65, 68, 68]⟩,
  ⟨#[83, 67, 65, 82, 68]⟩,
  ⟨#[83, 68, 73, 70, 70]⟩,
  ⟨#[83, 69, 84]⟩,
  ⟨#[83, 69, 84, 69, 88]⟩,
  ⟨#[83, 69, 84, 78, 88]⟩,
  ⟨#[83, 69, 84, 82, 65, 78, 71, 69]⟩,
  ⟨#[83, 73, 78, 84, 69, 82]⟩,
  ⟨#[83, 73, 83, 77, 69, 77, 66, 69, 82]⟩,
  ⟨#[83, 77, 69, 77, 66, 69, 82, 83]⟩,
  ⟨#[83, 77, 79, 86, 69]⟩,
  ⟨#[83, 80, 79, 80]⟩,
  ⟨#[83, 82, 69, 77]⟩,
  ⟨#[83, 84, 82, 76, 69, 78]⟩,
  ⟨#[83, 85, 78, 73, 79, 78]⟩,
  ⟨#[84, 84, 76]⟩,
  ⟨#[84, 89, 80, 69]⟩]
theorem rise_ext : ∀ a b : List (List UInt8), a.Pairwise (fun x y => Op.bytesLess x y = true) → b.Pairwise (fun x y => Op.bytesLess x y = true) → (∀ x, x ∈ a ↔ x ∈ b) → a = b
  | [], [], _, _, _ => rfl
  | [], y :: b, _, _, h => absurd ((h y).2 (by simp)) (by simp)
  | x :: a, [], _, _, h => absurd ((h x).1 (by simp)) (by simp)
  | x :: a, y :: b, ha, hb, h => by
    obtain ⟨a1, a2⟩ := List.pairwise_cons.1 ha
    obtain ⟨b1, b2⟩ := List.pairwise_cons.1 hb
    have irr : ∀ z : List UInt8, ¬ Op.bytesLess z z = true := fun z => by rw [less_irrefl]; simp
    have hxy : x = y := by
      rcases List.mem_cons.1 ((h x).1 (by simp)) with e | e
      · exact e
      · rcases List.mem_cons.1 ((h y).2 (by simp)) with f | f
        · exact f.symm
        · exact (irr _ (less_trans _ _ _ (b1 x e) (a1 y f))).elim
    subst hxy
    congr 1
    refine rise_ext a b a2 b2 fun z => ⟨fun hz => ?_, fun hz => ?_⟩
    · rcases List.mem_cons.1 ((h z).1 (List.mem_cons_of_mem _ hz)) with e | e
      · subst e; exact (irr _ (a1 z hz)).elim
      · exact e
    · rcases List.mem_cons.1 ((h z).2 (List.mem_cons_of_mem _ hz)) with e | e
      · subst e; exact (irr _ (b1 z hz)).elim
      · exact e
def riseB : List (List UInt8) → Bool
  | [] => true
  | [_] => true
  | x :: y :: l => Op.bytesLess x y && riseB (y :: l)
theorem rise_of : ∀ l : List (List UInt8), riseB l = true → l.Pairwise (fun x y => Op.bytesLess x y = true)
  | [], _ => List.Pairwise.nil
  | [x], _ => List.pairwise_singleton _ _
  | x :: y :: l, h => by
    simp only [riseB, Bool.and_eq_true] at h
    have ih := rise_of (y :: l) h.2
    refine List.pairwise_cons.2 ⟨fun z hz => ?_, ih⟩
    rcases List.mem_cons.1 hz with rfl | e
    · exact h.1
    · exact less_trans _ _ _ h.1 ((List.pairwise_cons.1 ih).1 z e)
def allIn (a b : List (List UInt8)) : Bool := a.all fun x => b.any fun y => x == y
theorem allIn_of {a b : List (List UInt8)} (h : allIn a b = true) : ∀ x, x ∈ a → x ∈ b := fun x hx => by
  have := List.all_eq_true.1 h x hx
  obtain ⟨y, h1, h2⟩ := List.any_eq_true.1 this
  rw [beq_iff_eq.1 h2]; exact h1
theorem names_rise : riseB (namesC.map ByteArray.toList) = true := by decide +kernel
theorem names_in1 : allIn ((nmL specL).map ByteArray.toList) (namesC.map ByteArray.toList) = true := by decide +kernel
theorem names_in2 : allIn (namesC.map ByteArray.toList) ((nmL specL).map ByteArray.toList) = true := by decide +kernel
theorem strict_of {l : List (List UInt8)} (h : l.Pairwise (fun x y => Op.bytesLess y x = false)) (hn : l.Nodup) : l.Pairwise (fun x y => Op.bytesLess x y = true) := by
  refine (h.and hn).imp ?_
  rintro a b ⟨h1, h2⟩
  rcases less_total a b with e | e | e
  · exact e
  · exact absurd e h2
  · rw [h1] at e; cases e
def onceB : List (List UInt8) → Bool
  | [] => true
  | x :: l => (!l.any fun y => x == y) && onceB l
theorem nodup_of : ∀ l : List (List UInt8), onceB l = true → l.Nodup
  | [], _ => List.nodup_nil
  | x :: l, h => by
    simp only [onceB, Bool.and_eq_true, Bool.not_eq_true'] at h
    refine List.nodup_cons.2 ⟨fun hx => ?_, nodup_of l h.2⟩
    have := List.any_eq_false.1 h.1 x hx
    simp at this
theorem names_once : onceB ((nmL specL).map ByteArray.toList) = true := by decide +kernel
theorem names_sort : sortL (nmL specL) = namesC.map ByteArray.toList := by
  have r := rise_of _ names_rise
  have hp := sortL_perm (nmL specL)
  have m : ∀ x, x ∈ (nmL specL).map ByteArray.toList ↔ x ∈ namesC.map ByteArray.toList := fun x => ⟨allIn_of names_in1 x, allIn_of names_in2 x⟩
  have hn := nodup_of _ names_once
  refine rise_ext _ _ (strict_of (sortL_up _) (hp.nodup_iff.2 hn)) r fun x => ?_
  rw [hp.mem_iff, m]
theorem names_eq : namesP = namesC := by
  unfold namesP
  rw [names_sort, List.map_map]
  have : (ofL ∘ ByteArray.toList) = id := funext fun x => ofL_toList x
  rw [this, List.map_id]

def keysF (k : Nat) (a1 : Int) (t296 : List ByteArray) (i : Int) : Option Bool := ((cmd_Find.f (rdOf ByteArray.empty t296 i)).bind fun bt300 => (if bt300.2.2.2.2.2.2.2 = true then (if bt300.2.1 < 1 then (caravanlaw4_CmdKeys.j0 k a1 true bt300.1 bt300.2.1 bt300.2.2.1 bt300.2.2.2.1 bt300.2.2.2.2.1 bt300.2.2.2.2.2.1 bt300.2.2.2.2.2.2.1) else (caravanlaw4_CmdKeys.j0 k a1 (decide (bt300.2.1 > 9)) bt300.1 bt300.2.1 bt300.2.2.1 bt300.2.2.2.1 bt300.2.2.2.2.1 bt300.2.2.2.2.2.1 bt300.2.2.2.2.2.2.1)) else (caravanlaw4_CmdKeys.j0 k a1 true bt300.1 bt300.2.1 bt300.2.2.1 bt300.2.2.2.1 bt300.2.2.2.2.1 bt300.2.2.2.2.2.1 bt300.2.2.2.2.2.2.1)))
theorem keys_mod (x y : Int) (h : Int.tmod (wrap64 x) 20 = Int.tmod (wrap64 y) 20) : ∀ k,
    (∀ b c d e f g p q, caravanlaw4_CmdKeys.j0 k x b c d e f g p q = caravanlaw4_CmdKeys.j0 k y b c d e f g p q) ∧
    (∀ b c d e f g p q, caravanlaw4_CmdKeys.l0 k x b c d e f g p q = caravanlaw4_CmdKeys.l0 k y b c d e f g p q) ∧
    (∀ b b' c d e f g p q, caravanlaw4_CmdKeys.j2 k x b b' c d e f g p q = caravanlaw4_CmdKeys.j2 k y b b' c d e f g p q) ∧
    (∀ b c d e f g p q, caravanlaw4_CmdKeys.j3 k x b c d e f g p q = caravanlaw4_CmdKeys.j3 k y b c d e f g p q) ∧
    (∀ b i, caravanlaw4_CmdKeys.l1 k x b i = caravanlaw4_CmdKeys.l1 k y b i)
  | 0 => ⟨fun _ _ _ _ _ _ _ _ => rfl, fun _ _ _ _ _ _ _ _ => rfl, fun _ _ _ _ _ _ _ _ _ => rfl, fun _ _ _ _ _ _ _ _ => rfl, fun _ _ => rfl⟩
  | k + 1 => by
    obtain ⟨h0, h1, h2, h3, h4⟩ := keys_mod x y h k
    refine ⟨fun b c d e f g p q => ?_, fun b c d e f g p q => ?_, fun b b' c d e f g p q => ?_, fun b c d e f g p q => ?_, fun b i => ?_⟩
    · simp only [caravanlaw4_CmdKeys.j0, h1]
    · simp only [caravanlaw4_CmdKeys.l0, h1, h2]
    · simp only [caravanlaw4_CmdKeys.j2, h3]
    · simp only [caravanlaw4_CmdKeys.j3, h4]
    · simp only [caravanlaw4_CmdKeys.l1, h, h4]
theorem keys_ok : ∀ (j : Fin 54) (m : Fin 20), keysF 70 (m.val : Int) namesC (j.val : Int) = some true := by decide +kernel
theorem CmdKeys : caravanlaw4_CmdKeys.Pure := by
  intro a0 a1 h0 h1
  have b0 := wf_u8 h0
  have b1 := wf_u8 h1
  obtain ⟨m, rfl⟩ := Int.eq_ofNat_of_zero_le b0.1
  obtain ⟨n, rfl⟩ := Int.eq_ofNat_of_zero_le b1.1
  refine ⟨70, ?_⟩
  unfold caravanlaw4_CmdKeys.f cmd_Names.f
  rw [Option.bind_some, namesP_length, if_neg (by decide)]
  have e0 : Int.tmod (wrap64 (m : Int)) ((54 : Nat) : Int) = ((m % 54 : Nat) : Int) := by
    rw [w64 (by omega) (by omega), Int.tmod_eq_emod_of_nonneg (by omega)]; omega
  rw [e0, if_pos (by omega), if_pos (by omega), names_eq]
  have e1 : Int.tmod (wrap64 (n : Int)) 20 = Int.tmod (wrap64 ((n % 20 : Nat) : Int)) 20 := by
    rw [w64 (by omega) (by omega), w64 (by omega) (by omega), Int.tmod_eq_emod_of_nonneg (by omega), Int.tmod_eq_emod_of_nonneg (by omega)]; omega
  have hk := keys_ok ⟨m % 54, Nat.mod_lt _ (by decide)⟩ ⟨n % 20, Nat.mod_lt _ (by decide)⟩
  unfold keysF at hk
  simp only [(keys_mod _ _ e1 70).1]
  exact hk
end Go.Proofs.Ytjdpmjpfhcdcfaa.Pure
