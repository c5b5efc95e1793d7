/- The law of a file that there is not: its walk. No conditions. -/
import Derived.Test.YthllhpjjoifnmaaGa
namespace Go.Proofs.Ythllhpjjoifnmaa
open Go.RowKit Go.Cav

set_option maxHeartbeats 1600000 in
theorem fileNil_walk {W : World} (v : Value) (l : List UInt8) (h : rSlice 1 1 rByte W [v] l) (n : Int) (_ : (Lit.int .i64 n).wf = true) :
    Calls Try.prog 7 #[v, .int .i64 n] W fun e w' => e = .returned (.bool true) ∧ Below W.heap.size W w' := by
  obtain ⟨a, c, rfl⟩ := reads_slice h.bytes.1
  clear h
  go_enter Try.func7, Try.ntmps7
  go_wp2_with fail
  refine (fall_nil 0 0 0 W).mono ?_
  rintro e w1 ⟨rfl, ht⟩
  have HB := Lib.hid (ht.below (Nat.le_refl _) (fun _ e => e.elim))
  clear ht
  go_wp2_with (first
    | (go_at_call 21; refine (tear_nil _ _).mono ?_; rintro e w' ⟨rfl, rfl⟩)
    | (go_at_call 15; refine (bytes_nil _).mono ?_; rintro e w' ⟨rfl, rfl⟩)
    | (go_at_call 12; refine (num_any _ _).mono ?_; rintro e w' ⟨rfl, rfl⟩)
    | (go_at_call 10; refine (add_nil _ _ _ _ rfl _).mono ?_; rintro e w' ⟨rfl, rfl⟩)
    | (go_at_call 11; refine (sync_nil _).mono ?_; rintro e w' ⟨rfl, rfl⟩)
    | (go_at_call 16; refine (swap_nil _ _ _ _).mono ?_; rintro e w' ⟨rfl, rfl⟩)
    | (go_at_call 25; refine (down_nil _).mono ?_; rintro e w' ⟨rfl, rfl⟩)
    | (go_at_call 13; refine (loose_nil _).mono ?_; rintro e w' ⟨rfl, rfl⟩)
    | (go_at_call 8; refine (awake_any _).mono ?_; rintro e w2 ⟨rfl, hb⟩; have HC := Lib.hid (HB.out.trans (hb.mono HB.out.size)); clear hb))
  go_ret
  exact ⟨rfl, HC.out⟩

end Go.Proofs.Ythllhpjjoifnmaa
