/- The laws' own example, and the law of a file that there is not. No conditions. -/
import Derived.Test.YthllhpjjoifnmaaCavR
import Derived.Test.YthllhpjjoifnmaaFd
namespace Go.Proofs.Ythllhpjjoifnmaa
open Go.RowKit Go.Cav

/-- a new file, and what of it is its own -/
abbrev S0 (w w1 : World) : Nat → Prop := fun i => w.heap.size ≤ i ∧ i < w1.heap.size

/-- a literal of bytes in a new block reads in every world that the file's own steps lead to -/
theorem lit_reads {w : World} {S : Nat → Prop} (cs : List Value) (t : TypeId) (hS : ∀ k, S k → k < w.heap.size) (n c : Nat) (hn : cs.length = n) (fr : Nat × Nat := (0, 0)) :
    ∀ W, Stir S (w.alloc (.cells cs.toArray t fr)) W → Reads W 1 (.slice (some ⟨w.heap.size, 0, none⟩) n c) n cs := by
  intro W hW
  refine ⟨by simp [hn], .inr ⟨_, _, rfl, fun j u hu => ?_⟩⟩
  have hh : (w.alloc (.cells cs.toArray t fr)).heap[w.heap.size]? = some (.cells cs.toArray t fr) := heap_alloc_new w _
  have hc : (w.alloc (.cells cs.toArray t fr)).cell? ((⟨w.heap.size, 0, none⟩ : Addr).add j) = some u := by
    have e : ((⟨w.heap.size, 0, none⟩ : Addr).add j) = ⟨w.heap.size, j, none⟩ := by unfold Addr.add; split <;> simp_all
    rw [e, World.cell?, hh]; simpa using hu
  refine hW.cell hc (fun e => ?_)
  have := hS _ e
  rw [add_block] at this; simp at this

theorem below_of_false {w w' : World} {B : Nat} (h : Stir (fun _ => False) w w') (hB : B ≤ w.heap.size) : Below B w w' := h.below hB (fun _ e => e.elim)

theorem step_below {B g : Nat} {S : Nat → Prop} {w w' : World} {s' : St} (h : Step B S g w s' w') (hB : B ≤ w.heap.size) (hS : ∀ k, S k → B ≤ k) : Below B w w' := by
  obtain ⟨_, _, _, _, _, _, ht⟩ := h
  exact ht.below hB hS

set_option maxHeartbeats 1600000 in
theorem awake_any (w : World) : Calls Try.prog 8 #[] w fun e w' => e = .returned (.bool true) ∧ Below w.heap.size w w' := by
  go_enter Try.func8, Try.ntmps8
  go_wp2_with fail
  refine (new_any 50 0 0 w).mono ?_
  rintro e w1 ⟨g, rfl, hg, hF1, ht1⟩
  go_wp2_with fail
  have ht2 := (Stir.refl (fun _ => False) w1).alloc (.cells #[.int .u8 97, .int .u8 98] 5)
  refine (add_up w.heap.size g _ _ _ _ _ (hF1.touch ht2 (fun _ _ e => e)) rfl _ [97, 98] (lit_reads [.int .u8 97, .int .u8 98] 5 (fun k h => h.2) 2 2 rfl) (by simp) (by simp) (by simp) (by simp) (by simp)).mono ?_
  rintro e w2 ⟨rfl, hs2⟩
  obtain ⟨S2, sv2, lv2, hF2, i2, j2, t2⟩ := hs2
  go_wp2_with fail
  refine (loose_any _ g _ _ _ _ w2 hF2).mono ?_
  rintro e w3 ⟨rfl, rfl⟩
  go_wp2_with fail
  refine (fall_any _ g _ _ _ _ 50 0 1 w2 hF2 (by simp) (by simp)).mono ?_
  rintro e w3 ⟨rfl, hs3⟩
  obtain ⟨S3, sv3, lv3, hF3, i3, j3, t3⟩ := hs3
  go_wp2_with fail
  refine (bytes_up _ g _ _ _ _ w3 hF3 rfl (by simp [kept])).mono ?_
  rintro e w4 ⟨v, rfl, hr, t4⟩
  have hk : ([] ++ List.take (kept ([] ++ [97, 98] : List UInt8).length 1) ([] ++ [97, 98] : List UInt8) : List UInt8) ++ [] = [97] := by decide
  dsimp only at hr
  rw [hk] at hr
  have hcv := run_string_reads (P := Try.prog) w4 22 9 5 v [97] Try.underlying22 Try.underlying5 Try.underlying9 hr
  have hlow : ∀ k, S2 k → w.heap.size ≤ k := fun k h => (hF2.from_ k h).1
  have HB := Lib.hid (((ht1.below (Nat.le_refl _) (fun _ e => e.elim)).trans (ht2.below ht1.size (fun _ e => e.elim))).trans ((t2.below (Nat.le_trans ht1.size ht2.size) (fun k h => h.1)).trans ((t3.below (Nat.le_trans (Nat.le_trans ht1.size ht2.size) t2.size) hlow).trans (t4.below (Nat.le_trans (Nat.le_trans (Nat.le_trans ht1.size ht2.size) t2.size) t3.size) (fun _ e => e.elim)))))
  clear hr hk hlow t2 t3 t4 ht1 ht2 hF1 hF2 hF3 i2 i3 j2 j3
  go_wp2_with (go_at_call 12; refine (num_any _ _).mono ?_; rintro e w' ⟨rfl, rfl⟩)
  go_ret
  exact ⟨rfl, HB.out⟩

end Go.Proofs.Ythllhpjjoifnmaa
