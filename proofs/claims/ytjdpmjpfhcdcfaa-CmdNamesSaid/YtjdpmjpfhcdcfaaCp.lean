/- What Keys hands back. Conditions: bounds on the words. -/
import Derived.Test.YtjdpmjpfhcdcfaaCo
namespace Go.Proofs.Ytjdpmjpfhcdcfaa
open Go.RowKit Go.Shelf Go.Cav
attribute [local go_sem] Oper.semAt_some

/-- what Keys answers -/
def keysP (ws : List ByteArray) : List ByteArray := match checkP ws with | none => [] | some s => keysL s ws
theorem checkP_some {ws : List ByteArray} {s : SpecV} (h : checkP ws = some s) : s ∈ specL ∧ countedP s ws.length = true ∧ ws ≠ [] := by
  unfold checkP at h
  split at h
  · cases h
  · split at h
    · cases h
    · rename_i x ws' s' hf
      split at h
      · rename_i hc
        cases h
        exact ⟨List.mem_of_find?_eq_some hf, hc.1, by simp⟩
      · cases h
theorem counted_le {s : SpecV} {n : Nat} (h : countedP s n = true) : n ≤ 100 := by
  unfold countedP at h
  split at h
  · cases h
  · split at h
    · cases h
    · simp only [Bool.and_eq_true, decide_eq_true_eq] at h; omega
theorem keyCount_le {s : SpecV} {n : Nat} (hs : s ∈ specL) (h : countedP s n = true) : keyCount s n ≤ 200 := by
  have hok : okS s = true := List.all_eq_true.1 specL_ok s hs
  have := counted_le h
  have hle := countedP_least h
  simp only [okS, Bool.and_eq_true, Bool.or_eq_true, beq_iff_eq, decide_eq_true_eq] at hok
  unfold keyCount keyTo
  split
  · omega
  · split <;> split <;> omega

set_option maxRecDepth 100000 in
set_option maxHeartbeats 2000000 in
theorem keysFn_any (ws : List ByteArray) (a : Option Addr) (c : Nat) (w : World) (hws : WordsAt w a ws) (hl : ws.length ≤ 1000000000000) (h0 : ∀ x, ws[0]? = some x → x.size ≤ 9000000000000000000) :
    Calls Try.prog 14 #[.slice a ws.length c] w fun e w' => ∃ v, e = .returned v ∧ w'.ownsRow w.heap.size 9 1 v (keysP ws).length ((keysP ws).map .string) ∧ Below w.heap.size w w' := by
  have hch := check_any ws a c w hws hl h0
  unfold keysP
  cases hc : checkP ws with
  | none =>
    rw [hc] at hch
    simp only [Option.getD_none, Option.isSome_none] at hch
    rw [show (encS zeroS).toArray = #[.string ⟨#[]⟩, .int .i64 0, .int .i64 0, .int .i64 0, .int .i64 0, .int .i64 0, .bool false] from rfl] at hch
    go_enter Try.func14, Try.ntmps14
    go_wp2_with (go_at_call 9; refine hch.mono ?_; rintro e w1 ⟨rfl, hw1⟩)
    go_ret
    exact ⟨_, rfl, World.ownsRow_nil _ _ _ _, hw1.alloc (by have := hw1.size; omega) _⟩
  | some s =>
    rw [hc] at hch
    simp only [Option.getD_some, Option.isSome_some] at hch
    obtain ⟨q1, q2, q3⟩ := checkP_some hc
    have hKA := keysAre s ws q1 hl (countedP_least q2)
    have hkl : (keysL s ws).length ≤ 200 := by rw [keysL_length]; exact keyCount_le q1 q2
    obtain ⟨x, ws', rfl⟩ := List.exists_cons_of_ne_nil q3
    obtain ⟨ad, rfl, hx⟩ := hws 0 x rfl
    have hadb : ad.block < w.heap.size := World.block_lt_of_cell? w _ hx
    obtain ⟨zs, hzs⟩ : ∃ zs, zs = keysL s (x :: ws') := ⟨_, rfl⟩
    simp only [← hzs] at hKA hkl ⊢
    obtain ⟨s0, s1, s2, s3, s4, s5, s6⟩ := s
    simp only [encS] at hch
    have HX := Lib.hid (And.intro hKA (And.intro hws hkl))
    clear hKA hkl hzs q1 q2 q3 hc h0 hl hws hx
    go_enter Try.func14, Try.ntmps14
    go_wp2_with (go_at_call 9; refine hch.mono ?_; rintro e w1 ⟨rfl, hw1⟩)
    have hk := keys_any ⟨s0, s1, s2, s3, s4, s5, s6⟩ (some ad) (x :: ws').length c (w1.alloc (.cells #[.string s0, .int .i64 s1, .int .i64 s2, .int .i64 s3, .int .i64 s4, .int .i64 s5, .bool s6] 26))
    simp only [encS] at hk
    refine hk.mono ?_
    rintro e w4 ⟨rfl, hw4⟩
    have hz1 : w.heap.size ≤ w1.heap.size := hw1.size
    have hb2 : Below w.heap.size w (w1.alloc (.cells #[.string s0, .int .i64 s1, .int .i64 s2, .int .i64 s3, .int .i64 s4, .int .i64 s5, .bool s6] 26)) := hw1.alloc hz1 _
    have hz2 : (w1.alloc (.cells #[.string s0, .int .i64 s1, .int .i64 s2, .int .i64 s3, .int .i64 s4, .int .i64 s5, .bool s6] 26)).heap.size = w1.heap.size + 1 := by simp
    generalize w1.alloc (.cells #[.string s0, .int .i64 s1, .int .i64 s2, .int .i64 s3, .int .i64 s4, .int .i64 s5, .bool s6] 26) = w3 at hw4 hb2 hz2 ⊢
    have bK4 : RowAt w4 w3.heap.size ⟨s0, s1, s2, s3, s4, s5, s6⟩ := by rw [hw4]; exact (Below.heap_alloc _ _ _ (by simp)).trans (heap_alloc_new w3 _)
    have bW4 : Boxed w4 (w3.heap.size + 1) 22 (.slice (some ad) (x :: ws').length c) := by
      rw [hw4]; have := Boxed.new (w3.alloc (.cells [Value.string s0, Value.int IntKind.i64 s1, Value.int IntKind.i64 s2, Value.int IntKind.i64 s3, Value.int IntKind.i64 s4, Value.int IntKind.i64 s5, Value.bool s6].toArray 26)) 22 (.slice (some ad) (x :: ws').length c)
      rw [World.size_alloc] at this; exact this
    have hS4 : Stir (fun _ => False) w3 w4 := by rw [hw4]; exact ((Stir.refl _ w3).alloc _).alloc _
    have hb4 : Below w.heap.size w w4 := hb2.trans (hS4.below (by omega) (fun k e => e.elim))
    have hz4 : w4.heap.size = w3.heap.size + 2 := by rw [hw4]; simp
    have hco := collect_any zs (by have := HX.out.2.2; omega) 28 #[.pointer (some ⟨w3.heap.size, 0, none⟩), .pointer (some ⟨w3.heap.size + 1, 0, none⟩)] w4 (enters_of Try.func28 (by kernel_rfl) rfl)
      (fun T w' hw' hT => keys_stops 5 (by omega) w4.heap.size T ⟨s0, s1, s2, s3, s4, s5, s6⟩ (x :: ws') zs _ _ HX.out.1 w3.heap.size (w3.heap.size + 1) (some ad) c w' ((hw'.block _ (by omega)).trans bK4) ((hw'.block _ (by omega)).trans bW4) ((HX.out.2.1.below hb4).below hw')
        (fun k hk => by have := hT k hk; refine ⟨by omega, by omega, fun ad' e => ?_⟩; cases e; omega))
    clear hw4 bK4 bW4 hS4 hb2
    have HZ := Lib.hid (And.intro hz1 (And.intro hz2 hz4))
    clear hz1 hz2 hz4
    go_wp2_with fail
    refine hco.mono ?_
    rintro e w5 ⟨v, rfl, h1, h2⟩
    obtain ⟨hz1, hz2, hz4⟩ := HZ.out
    have h3 : w5.ownsRow w.heap.size 9 1 v zs.length (zs.map .string) := by
      refine ⟨h1.1, ?_⟩
      rcases h1.2 with hl | ⟨g', cap, cur, hv, hb, r⟩
      · exact .inl hl
      · exact .inr ⟨g', cap, cur, hv, by omega, r⟩
    clear hz1 hz2 hz4 h1
    have HH := Lib.hid (And.intro h3 (hb4.trans (h2.mono hb4.size)))
    clear h3 h2 hb4
    go_wp2
    go_ret
    exact ⟨v, rfl, HH.out.1, HH.out.2⟩
end Go.Proofs.Ytjdpmjpfhcdcfaa
