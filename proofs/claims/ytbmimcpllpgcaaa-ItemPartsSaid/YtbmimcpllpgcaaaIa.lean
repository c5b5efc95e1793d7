/- What the iterators of items hand on: the names of fields. Conditions: a bound on their number. -/
import Derived.Test.YtbmimcpllpgcaaaProg
import Derived.Test.YtbmimcpllpgcaaaCavC
namespace Go.Proofs.Ytbmimcpllpgcaaa
open Go.RowKit Go.Shelf Go.Cav

attribute [local go_sem] Oper.semAt_some

theorem add_at (a : Addr) (m k : Nat) (hk : 0 < k) : a.add (m + k) = ⟨(a.add m).block, (a.add m).off + k, none⟩ := by
  unfold Addr.add
  rw [if_neg (by omega)]
  by_cases hm : m = 0
  · subst hm; simp
  · rw [if_neg hm]; simp; omega

theorem names_any (a : Option Addr) (n c : Nat) (w : World) : Calls Try.prog 34 #[.slice a n c] w fun e w' => e = .returned (.func (.func 38) #[] #[.pointer (some ⟨w.heap.size, 0, none⟩)]) ∧ w' = w.alloc (.cells #[.slice a n c] 23) := by
  go_enter Try.func34, Try.ntmps34
  go_wp2
  go_ret
  exact ⟨rfl, rfl⟩

/-- the cells of a field -/
def fcells (l : List (ByteArray × ByteArray)) : List Value := l.flatMap fun x => [.string x.1, .string x.2]

theorem grown_alloc (w : World) (o : Obj) : w.grownBy (w.alloc o) none := Stir.grownBy ((Stir.refl _ w).alloc o)

set_option maxRecDepth 100000 in
set_option maxHeartbeats 2000000 in
theorem names1_in (F : Fence) (n : Nat) (h7 : F.fn 38) (hro : F.round = none) (hn : 1 ≤ n) (l Bs B : Nat) (T : Nat → Prop) (ad : Addr) (len cap : Nat) (zs : List (ByteArray × ByteArray)) (hz : zs.length = len) (hreach : len ≤ 100000000000000) (hb : ¬ T ad.block) (J Jx : List (ByteArray × ByteArray) → World → Prop)
    (W : World) (hA : AbidesFrom W.heap.size J) (hY : ∀ pre x W, J pre W → pre.length < len → YieldAt F (n - 1) Try.prog l #[.string x.1] W fun e W' =>
      (e = .returned (.bool true) ∧ J (pre ++ [x]) W' ∧ StirC B T W W') ∨ (e = .returned (.bool false) ∧ Jx (pre ++ [x]) W'))
    (hBs : W.cell? ⟨Bs, 0, none⟩ = some (.slice (some ad) len cap)) (hc : ∀ i x, zs[i]? = some x → W.cell? (ad.add (i * 2)) = some (.string x.1) ∧ W.cell? (ad.add (i * 2 + 1)) = some (.string x.2)) (h0 : J [] W) :
    CallsIn F n Try.prog 38 #[.func (.yield l) #[] #[], .pointer (some ⟨Bs, 0, none⟩)] W fun e W' => (∃ v, e = .returned v) ∧
      ((∃ ys, ys = zs ∧ J ys W') ∨ (∃ pre, pre <+: zs ∧ Jx pre W')) := by
  refine callsIn_of_wp Try.func38 rfl h7 ?_ hro
  simp only [Try.ntmps38, List.size_toArray, List.length_cons, List.length_nil, Nat.reduceAdd, Nat.reduceSub, Array.replicate_succ, Array.replicate_zero, List.push_toArray, List.append_toArray, List.nil_append, List.cons_append]
  gi_wp2
  gi_loopw [7] (fun i wr => ∃ k : Nat, k ≤ len ∧ i = .int .i64 k ∧ J (zs.take k) wr ∧ StirC B T W wr)
    (fun i _ => len - (intOf i).toNat)
  case atStart => exact ⟨0, Nat.zero_le _, rfl, by simpa using h0, StirC.refl _ _ _⟩
  case round =>
    obtain ⟨k, hk, rfl, hJs, hnx⟩ := hrel
    by_cases hlt : k < len
    · obtain ⟨x, hx⟩ : ∃ x, zs[k]? = some x := ⟨_, List.getElem?_eq_getElem (by omega)⟩
      obtain ⟨c0, c1⟩ := hc k x hx
      have hcx := hnx.cell c0 (by rw [add_block]; exact hb)
      have hcy := hnx.cell c1 (by rw [add_block]; exact hb)
      rw [add_at ad _ _ (by decide)] at hcy
      obtain ⟨s1, s2⟩ := x
      dsimp only at hcx hcy
      have hJ1 := hA _ _ (wr.alloc (.cells #[.string s1, .string s2] 29)) none hJs (grown_alloc _ _) (fun r e => by cases e)
      obtain ⟨fn, tmps, assign, body, hy, hR⟩ := hY _ (s1, s2) _ hJ1 (by rw [List.length_take]; omega)
      have htk : zs.take (k + 1) = zs.take k ++ [(s1, s2)] := by rw [List.take_add_one, hx]; rfl
      have HT := Lib.hid htk
      clear htk hx
      gi_wp2
      refine hR.mono ?_
      rintro e W3 (⟨rfl, hJ3, hk3⟩ | ⟨rfl, hJx3⟩)
      · gi_wp2
        go_roundw
        case rel => exact ⟨k + 1, by omega, by simp, by rw [HT.out]; exact hJ3, (hnx.alloc _).trans hk3⟩
        case measure => simp [intOf]; omega
      · gi_wp2
        refine bodyPost_ret (results_none rfl _ _ _) rfl ?_
        exact ⟨⟨_, rfl⟩, .inr ⟨_, by rw [← HT.out]; exact List.take_prefix _ _, hJx3⟩⟩
    · obtain rfl : k = len := by omega
      gi_wp2
      go_end0
      exact ⟨⟨_, rfl⟩, .inl ⟨_, rfl, by rw [List.take_of_length_le (by omega)] at hJs; exact hJs⟩⟩

set_option maxRecDepth 100000 in
set_option maxHeartbeats 1000000 in
/-- .. at the nil slice: no round. -/
theorem names1_nil_in (c0 : Nat) (F : Fence) (n : Nat) (h7 : F.fn 38) (hro : F.round = none) (l Bs : Nat) (J : List (ByteArray × ByteArray) → World → Prop) (W : World) (hBs : W.cell? ⟨Bs, 0, none⟩ = some (.slice none 0 c0)) (h0 : J [] W) :
    CallsIn F n Try.prog 38 #[.func (.yield l) #[] #[], .pointer (some ⟨Bs, 0, none⟩)] W fun e W' => (∃ v, e = .returned v) ∧ J [] W' := by
  refine callsIn_of_wp Try.func38 rfl h7 ?_ hro
  simp only [Try.ntmps38, List.size_toArray, List.length_cons, List.length_nil, Nat.reduceAdd, Nat.reduceSub, Array.replicate_succ, Array.replicate_zero, List.push_toArray, List.append_toArray, List.nil_append, List.cons_append]
  gi_wp2
  gi_loopw [7] (fun i wr => i = .int .i64 0 ∧ J [] wr) (fun _ _ => 0)
  case atStart => exact ⟨rfl, h0⟩
  case round =>
    obtain ⟨rfl, hJs⟩ := hrel
    gi_wp2
    go_end0
    exact ⟨⟨_, rfl⟩, hJs⟩

/-- what reads as fields, field by field -/
def FieldsAt (w : World) (v : Value) (zs : List (ByteArray × ByteArray)) : Prop :=
  (∃ c, v = .slice none 0 c ∧ zs = []) ∨ ∃ a c, v = .slice (some a) zs.length c ∧ ∀ i x, zs[i]? = some x → w.cell? (a.add (i * 2)) = some (.string x.1) ∧ w.cell? (a.add (i * 2 + 1)) = some (.string x.2)

theorem FieldsAt.touch {S : Nat → Prop} {w w' : World} {v : Value} {zs : List (ByteArray × ByteArray)} (h : FieldsAt w v zs) (ht : Stir S w w') (hn : ∀ k, v.ownBlock = some k → ¬ S k) : FieldsAt w' v zs := by
  rcases h with h | ⟨a, c, rfl, hc⟩
  · exact .inl h
  · refine .inr ⟨a, c, rfl, fun i x hx => ⟨ht.cell (hc i x hx).1 ?_, ht.cell (hc i x hx).2 ?_⟩⟩ <;> (rw [add_block]; exact hn _ rfl)
theorem FieldsAt.below {w w' : World} {v : Value} {zs : List (ByteArray × ByteArray)} (h : FieldsAt w v zs) (hb : Below w.heap.size w w') : FieldsAt w' v zs :=
  h.touch (Stir.of_below hb (fun _ => False)) (fun _ _ e => e)

theorem names_stops (F : Fence) (n : Nat) (h7 : F.fn 38) (hro : F.round = none) (hn : 1 ≤ n) (Bs B : Nat) (T : Nat → Prop) (sv : Value) (zs : List (ByteArray × ByteArray)) (hreach : zs.length ≤ 100000000000000) (w : World) (hBs : Bs < w.heap.size)
    (hc : w.cell? ⟨Bs, 0, none⟩ = some sv) (hI : FieldsAt w sv zs) (hlow : ∀ k, sv.ownBlock = some k → ¬ T k) :
    IterC F n Try.prog 38 #[.pointer (some ⟨Bs, 0, none⟩)] (fun x : ByteArray × ByteArray => #[.string x.1]) B T zs w := fun l J Jx W hW hA _ hY h0 => by
  have hc' := (hW.cell (p := ⟨Bs, 0, none⟩) hBs).trans hc
  have hI' := hI.below hW
  rcases hI' with ⟨c0, rfl, rfl⟩ | ⟨ad, cap, rfl, hcs⟩
  · exact (names1_nil_in c0 F n h7 hro l Bs J W hc' h0).mono fun e W' ⟨he, hj⟩ => ⟨he, .inl ⟨_, rfl, hj⟩⟩
  · exact names1_in F n h7 hro hn l Bs B T ad zs.length cap zs rfl hreach (hlow _ rfl) J Jx W hA hY hc' hcs h0

end Go.Proofs.Ytbmimcpllpgcaaa
