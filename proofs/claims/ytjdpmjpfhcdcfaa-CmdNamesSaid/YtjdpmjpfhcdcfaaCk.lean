/- What Check hands back. Conditions: bounds on the words. -/
import Derived.Test.YtjdpmjpfhcdcfaaKe
namespace Go.Proofs.Ytjdpmjpfhcdcfaa
open Go.RowKit Go.Shelf Go.Cav
attribute [local go_sem] Oper.semAt_some

theorem keys_any (s : SpecV) (a : Option Addr) (n c : Nat) (w : World) : Calls Try.prog 20 #[.agg (encS s).toArray, .slice a n c] w fun e w' => e = .returned (.func (.func 28) #[] #[.pointer (some ⟨w.heap.size, 0, none⟩), .pointer (some ⟨w.heap.size + 1, 0, none⟩)]) ∧ w' = (w.alloc (.cells (encS s).toArray 26)).alloc (.cells #[.slice a n c] 22) := by
  obtain ⟨s0, s1, s2, s3, s4, s5, s6⟩ := s
  unfold encS
  go_enter Try.func20, Try.ntmps20
  go_wp2
  go_ret
  exact ⟨by simp, rfl⟩
theorem keys_stops (n : Nat) (hn : 1 ≤ n) (B : Nat) (T : Nat → Prop) (s : SpecV) (ws zs : List ByteArray) (f st : Nat) (hk : KeysAre s ws zs f st)
    (Bs Bw : Nat) (a : Option Addr) (c : Nat) (w : World) (hs : RowAt w Bs s) (hw : Boxed w Bw 22 (.slice a ws.length c)) (hws : WordsAt w a ws) (hT : ∀ k, T k → k ≠ Bs ∧ k ≠ Bw ∧ ∀ ad, a = some ad → k ≠ ad.block) :
    IterC Fence.wide n Try.prog 28 #[.pointer (some ⟨Bs, 0, none⟩), .pointer (some ⟨Bw, 0, none⟩)] (fun x : ByteArray => #[.string x]) B T zs w := fun l J Jx W hW _ _ hY h0 =>
  keys1_in n hn l B T J Jx W s ws zs f st hk Bs Bw a c ((hW.block _ hs.lt).trans hs) ((hW.block _ hw.lt).trans hw) (hws.below hW) (fun k h => .inr (hT k h)) hY h0

/-- as many words as there should be -/
def countedP (s : SpecV) (n : Nat) : Bool :=
  if ((s.nm.toList == [77, 83, 69, 84]) || (s.nm.toList == [77, 83, 69, 84, 78, 88])) && ((n : Int) % 2 == 0) then false
  else if (!((s.nm.toList == [77, 83, 69, 84]) || (s.nm.toList == [77, 83, 69, 84, 78, 88]))) && (s.nm.toList == [72, 83, 69, 84]) && ((n : Int) % 2 == 1) then false
  else decide ((n : Int) ≤ 100) && decide (s.least ≤ (n : Int)) && (decide (s.most = 0) || decide ((n : Int) ≤ s.most))
set_option maxRecDepth 100000 in
set_option maxHeartbeats 2000000 in
theorem counted_any (s : SpecV) (m : Nat) (w : World) : Calls Try.prog 19 #[.agg (encS s).toArray, .int .i64 m] w fun e w' => e = .returned (.bool (countedP s m)) ∧ Below w.heap.size w w' := by
  obtain ⟨s0, s1, s2, s3, s4, s5, s6⟩ := s
  unfold encS
  go_enter Try.func19, Try.ntmps19
  go_wp2
  all_goals go_ret
  all_goals (refine ⟨?_, (Below.refl _ w).alloc (Nat.le_refl _) _⟩; unfold countedP; simp only [*]; first | rfl | (simp [*]; done) | (simp_all; done) | (simp [*]; omega))

end Go.Proofs.Ytjdpmjpfhcdcfaa
