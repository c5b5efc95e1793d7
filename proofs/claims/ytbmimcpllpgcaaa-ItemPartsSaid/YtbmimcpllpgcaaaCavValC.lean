/- The library's slices.Values at one element type of one cell: the value that it hands back is an iterator over the elements. Conditions: a bound on their number. -/
import Derived.Test.YtbmimcpllpgcaaaProg
import Derived.Test.YtbmimcpllpgcaaaCavC
namespace Go.Proofs.Ytbmimcpllpgcaaa
open Go.RowKit Go.Shelf Go.Cav

attribute [local go_sem] Oper.semAt_some

set_option maxHeartbeats 400000 in
theorem values_any (a : Option Addr) (n c : Nat) (w : World) : Calls Try.prog 35 #[.slice a n c] w fun e w' => e = .returned (.func (.func 39) #[] #[.pointer (some ⟨w.heap.size, 0, none⟩)]) ∧ w' = w.alloc (.cells #[.slice a n c] 24) := by
  go_enter Try.func35, Try.ntmps35
  go_wp2
  go_ret
  exact ⟨rfl, rfl⟩

set_option maxRecDepth 100000 in
set_option maxHeartbeats 2000000 in
/-- the closure of slices.Values, at elements of one cell -/
theorem values1_in {α : Type} (f : α → Value) (F : Fence) (n : Nat) (h7 : F.fn 39) (hro : F.round = none) (hn : 1 ≤ n) (l Bs : Nat) (B : Nat) (T : Nat → Prop) (ad : Addr) (len cap : Nat) (zs : List α) (hz : zs.length = len) (hreach : len ≤ 100000000000000) (hb : ¬ T ad.block) (J Jx : List α → World → Prop)
    (hY : ∀ pre x W, J pre W → pre.length < len → YieldAt F (n - 1) Try.prog l #[f x] W fun e W' =>
      (e = .returned (.bool true) ∧ J (pre ++ [x]) W' ∧ StirC B T W W') ∨ (e = .returned (.bool false) ∧ Jx (pre ++ [x]) W'))
    (W : World) (hBs : W.cell? ⟨Bs, 0, none⟩ = some (.slice (some ad) len cap)) (hc : ∀ j u, (zs.map f)[j]? = some u → W.cell? (ad.add j) = some u) (h0 : J [] W) :
    CallsIn F n Try.prog 39 #[.func (.yield l) #[] #[], .pointer (some ⟨Bs, 0, none⟩)] W fun e W' => (∃ v, e = .returned v) ∧
      ((∃ ys, ys = zs ∧ J ys W') ∨ (∃ pre, pre <+: zs ∧ Jx pre W')) := by
  refine callsIn_of_wp Try.func39 rfl h7 ?_ hro
  simp only [Try.ntmps39, List.size_toArray, List.length_cons, List.length_nil, Nat.reduceAdd, Nat.reduceSub, Array.replicate_succ, Array.replicate_zero, List.push_toArray, List.append_toArray, List.nil_append, List.cons_append]
  gi_wp2
  gi_loopw [7] (fun i wr => ∃ k : Nat, k ≤ len ∧ i = .int .i64 k ∧ J (zs.take k) wr ∧ StirC B T W wr)
    (fun i _ => len - (intOf i).toNat)
  case atStart => exact ⟨0, Nat.zero_le _, rfl, by simpa using h0, StirC.refl _ _ _⟩
  case round =>
    obtain ⟨k, hk, rfl, hJs, hnx⟩ := hrel
    by_cases hlt : k < len
    · obtain ⟨x, hx⟩ : ∃ x, zs[k]? = some x := ⟨_, List.getElem?_eq_getElem (by omega)⟩
      have hcx : wr.cell? (ad.add k) = some (f x) := hnx.cell (hc k (f x) (by rw [List.getElem?_map, hx]; rfl)) (by rw [add_block]; exact hb)
      obtain ⟨fn, tmps, assign, body, hy, hR⟩ := hY _ x wr hJs (by rw [List.length_take]; omega)
      have htk : zs.take (k + 1) = zs.take k ++ [x] := by rw [List.take_add_one, hx]; rfl
      have HT := Lib.hid htk
      clear htk hx
      gi_wp2
      refine hR.mono ?_
      rintro e W3 (⟨rfl, hJ3, hk3⟩ | ⟨rfl, hJx3⟩)
      · gi_wp2
        go_roundw
        case rel => exact ⟨k + 1, by omega, by simp, by rw [HT.out]; exact hJ3, hnx.trans hk3⟩
        case measure => simp [intOf]; omega
      · gi_wp2
        refine bodyPost_ret (results_none rfl _ _ _) rfl ?_
        exact ⟨⟨_, rfl⟩, .inr ⟨_, by rw [← HT.out]; exact List.take_prefix _ _, hJx3⟩⟩
    · obtain rfl : k = len := by omega
      gi_wp2
      go_end0
      exact ⟨⟨_, rfl⟩, .inl ⟨_, rfl, by rw [List.take_of_length_le (by omega)] at hJs; exact hJs⟩⟩

set_option maxRecDepth 100000 in
set_option maxHeartbeats 1000000 in
/-- .. at the nil slice: no round. -/
theorem values1_nil_in {α : Type} (c0 : Nat) (F : Fence) (n : Nat) (h7 : F.fn 39) (hro : F.round = none) (l Bs : Nat) (J : List α → World → Prop) (W : World) (hBs : W.cell? ⟨Bs, 0, none⟩ = some (.slice none 0 c0)) (h0 : J [] W) :
    CallsIn F n Try.prog 39 #[.func (.yield l) #[] #[], .pointer (some ⟨Bs, 0, none⟩)] W fun e W' => (∃ v, e = .returned v) ∧ J [] W' := by
  refine callsIn_of_wp Try.func39 rfl h7 ?_ hro
  simp only [Try.ntmps39, List.size_toArray, List.length_cons, List.length_nil, Nat.reduceAdd, Nat.reduceSub, Array.replicate_succ, Array.replicate_zero, List.push_toArray, List.append_toArray, List.nil_append, List.cons_append]
  gi_wp2
  gi_loopw [7] (fun i wr => i = .int .i64 0 ∧ J [] wr) (fun _ _ => 0)
  case atStart => exact ⟨rfl, h0⟩
  case round =>
    obtain ⟨rfl, hJs⟩ := hrel
    gi_wp2
    go_end0
    exact ⟨⟨_, rfl⟩, hJs⟩

theorem values_stops {α : Type} (f : α → Value) (F : Fence) (n : Nat) (h7 : F.fn 39) (hro : F.round = none) (hn : 1 ≤ n) (Bs : Nat) (B : Nat) (T : Nat → Prop) (sv : Value) (zs : List α) (hreach : zs.length ≤ 100000000000000) (w : World) (hBs : Bs < w.heap.size)
    (hc : w.cell? ⟨Bs, 0, none⟩ = some sv) (hI : ReadsA w 1 sv zs.length (zs.map f)) (hlow : ∀ k, sv.ownBlock = some k → ¬ T k) :
    IterC F n Try.prog 39 #[.pointer (some ⟨Bs, 0, none⟩)] (fun x : α => #[f x]) B T zs w := fun l J Jx W hW _ _ hY h0 => by
  have hc' := (hW.cell (p := ⟨Bs, 0, none⟩) hBs).trans hc
  have hI' := hI.below hW
  rcases hI'.2 with ⟨c0, rfl, h0'⟩ | ⟨ad, cap, rfl, hcs⟩
  · obtain rfl : zs = [] := List.eq_nil_of_length_eq_zero h0'
    exact (values1_nil_in c0 F n h7 hro l Bs J W hc' h0).mono fun e W' ⟨he, hj⟩ => ⟨he, .inl ⟨_, rfl, hj⟩⟩
  · exact values1_in f F n h7 hro hn l Bs B T ad zs.length cap zs rfl hreach (hlow _ rfl) J Jx hY W hc' hcs h0

end Go.Proofs.Ytbmimcpllpgcaaa
