/- What 'two' hands on: all that either of two lists has, and which. Conditions: bounds on their lengths. -/
import Derived.Test.YtelgfangaigncaaProg
import Derived.Test.YtelgfangaigncaaCavS
import Derived.BigRegionIn
import Derived.RegionIn
import Derived.BigQuiet
import Derived.Sort.BigQuietIn
import Derived.Test.YtelgfangaigncaaPK
namespace Go.Proofs.Ytelgfangaigncaa
open Go.RowKit Go.Shelf Go.Cav

attribute [local go_sem] Oper.semAt_some

def ltS (x y : ByteArray) : Bool := Op.bytesLess x.toList y.toList
/-- the texts of two lists, the lesser one first; who has it -/
def twoL : List ByteArray → List ByteArray → List (ByteArray × Int)
  | [], [] => []
  | a :: r, [] => (a, 1) :: twoL r []
  | [], b :: s => (b, 2) :: twoL [] s
  | a :: r, b :: s => if ltS a b = true then (a, 1) :: twoL r (b :: s) else if a.toList = b.toList then (b, 3) :: twoL r s else (b, 2) :: twoL (a :: r) s
termination_by a b => a.length + b.length

/-- a slice value reads as a list; where its cells lie -/
def LReads (W : World) (ok : Nat → Prop) (v : Value) (xs : List ByteArray) : Prop :=
  ∃ A c, v = .slice A xs.length c ∧ xs.length ≤ c ∧ (xs ≠ [] → ∃ ad, A = some ad ∧ ok ad.block ∧ ∀ j x, xs[j]? = some x → W.cell? (ad.add j) = some (.string x))
/-- a box holds a slice that reads as a list -/
def Holds (W : World) (B : Nat) (ok : Nat → Prop) (xs : List ByteArray) : Prop := ∃ v, Boxed W B 24 v ∧ LReads W ok v xs

theorem LReads.touch {S : Nat → Prop} {ok : Nat → Prop} {W W' : World} {v : Value} {xs : List ByteArray} (h : LReads W ok v xs) (ht : Stir S W W') (hn : ∀ k, ok k → ¬ S k) : LReads W' ok v xs := by
  obtain ⟨A, c, rfl, h1, h2⟩ := h
  refine ⟨A, c, rfl, h1, fun hx => ?_⟩
  obtain ⟨ad, rfl, h3, h4⟩ := h2 hx
  exact ⟨ad, rfl, h3, fun j x hj => ht.cell (h4 j x hj) (by rw [add_block]; exact hn _ h3)⟩
theorem LReads.cons {ok : Nat → Prop} {W : World} {v : Value} {x : ByteArray} {xs : List ByteArray} (h : LReads W ok v (x :: xs)) :
    ∃ ad c, v = .slice (some ad) (xs.length + 1) c ∧ xs.length + 1 ≤ c ∧ ok ad.block ∧ W.cell? ad = some (.string x) ∧ (c = 1 → xs = []) ∧ (∀ a' c', xs.length ≤ c' → (c ≠ 1 → a' = ad.add 1) → LReads W ok (.slice (some a') xs.length c') xs) := by
  obtain ⟨A, c, rfl, h1, h2⟩ := h
  obtain ⟨ad, rfl, h3, h4⟩ := h2 (by simp)
  refine ⟨ad, c, rfl, h1, h3, h4 0 x rfl, fun e => List.eq_nil_of_length_eq_zero (by simp at h1; omega), fun a' c' hc ha => ⟨_, c', rfl, hc, fun hx => ?_⟩⟩
  have hne : c ≠ 1 := fun e => hx (List.eq_nil_of_length_eq_zero (by simp at h1; omega))
  rw [ha hne]
  refine ⟨_, rfl, by rw [add_block]; exact h3, fun j z hj => ?_⟩
  have := h4 (j + 1) z (by simpa using hj)
  have e : (ad.add 1).add j = ad.add (j + 1) := by
    unfold Addr.add
    by_cases hj0 : j = 0
    · subst hj0; simp
    · simp [hj0]; omega
  rw [e]; exact this

/-- the iterator's own steps: it turns its two boxes, and draws -/
def Own2 (Ba Bb : Nat) (A B : World) : Prop := Stir (fun k => k = Ba ∨ k = Bb) A B ∧ ∀ k, k = Ba ∨ k = Bb → ∃ o : Obj, A.heap[k]? = some o ∧ o.isCells = true
theorem own2_plain (Ba Bb : Nat) : Plain (Own2 Ba Bb) := by
  intro A B i o h hi hc _
  refine (h.1.block i (lt_of_heap hi) (fun e => ?_)).trans hi
  obtain ⟨o', h1, h2⟩ := h.2 i e
  rw [hi] at h1; cases h1; rw [hc] at h2; cases h2
def lenC : Option Value → Nat
  | some (.slice _ n _) => n
  | _ => 0

theorem two_any (a b : Option Addr) (n c m d : Nat) (w : World) : Calls Try.prog 30 #[.slice a n c, .slice b m d] w fun e w' => e = .returned (.func (.func 35) #[] #[.pointer (some ⟨w.heap.size, 0, none⟩), .pointer (some ⟨w.heap.size + 1, 0, none⟩)]) ∧ w' = (w.alloc (.cells #[.slice a n c] 24)).alloc (.cells #[.slice b m d] 24) := by
  go_enter Try.func30, Try.ntmps30
  go_wp2
  go_ret
  exact ⟨by simp, rfl⟩


section
variable (T : Nat → Prop) (Ba Bb : Nat)
/-- where the lists' cells may lie -/
abbrev okk (k : Nat) : Prop := ¬ T k ∧ k ≠ Ba ∧ k ≠ Bb
theorem Holds.kept {W W' : World} {B : Nat} {xs : List ByteArray} (h : Holds W B (okk T Ba Bb) xs) (ht : Stir T W W') (hB : ¬ T B) : Holds W' B (okk T Ba Bb) xs := by
  obtain ⟨v, h1, h2⟩ := h
  refine ⟨v, ?_, h2.touch ht (fun k hk => hk.1)⟩
  have hb := h1
  unfold Boxed at hb ⊢
  exact (ht.block B (lt_of_heap hb) hB).trans hb

theorem boxed_stir {S : Nat → Prop} {W W' : World} {B t : Nat} {v : Value} (h : Boxed W B t v) (hs : Stir S W W') (hn : ¬ S B) : Boxed W' B t v := by
  have hb := h
  unfold Boxed at hb ⊢
  exact (hs.block B h.lt hn).trans hb
theorem boxed_drewN {W : World} {B t : Nat} {v : Value} (h : Boxed W B t v) (k : Nat) : Boxed (W.drewN k) B t v := boxed_stir h ((Stir.refl (fun _ => False) W).drewN k) (fun e => e)
theorem cell_drewN {W : World} {p : Addr} {v : Value} (h : W.cell? p = some v) (k : Nat) : (W.drewN k).cell? p = some v := ((Stir.refl (fun _ => False) W).drewN k).cell h (fun e => e)
/-- where a slice begins behind its first element -/
def tl1 (ad : Addr) (d : Nat) : Addr := if d = 1 then ad else ad.add 1
theorem drop_side (B C : Nat) (hBC : B ≠ C) (hB : (B = Ba ∧ C = Bb) ∨ (B = Bb ∧ C = Ba)) (vc : Value) (zs : List ByteArray) (y : ByteArray) (ys : List ByteArray) (ad : Addr) (d : Nat) {W : World}
    (hb : Boxed W B 24 (.slice (some ad) (ys.length + 1) d)) (r : LReads W (okk T Ba Bb) (.slice (some ad) (ys.length + 1) d) (y :: ys)) (hc : Boxed W C 24 vc) (rc : LReads W (okk T Ba Bb) vc zs) :
    Boxed (W.setCell ⟨B, 0, none⟩ (.slice (some (tl1 ad d)) ys.length (d - 1))) B 24 (.slice (some (tl1 ad d)) ys.length (d - 1)) ∧
    LReads (W.setCell ⟨B, 0, none⟩ (.slice (some (tl1 ad d)) ys.length (d - 1))) (okk T Ba Bb) (.slice (some (tl1 ad d)) ys.length (d - 1)) ys ∧
    Boxed (W.setCell ⟨B, 0, none⟩ (.slice (some (tl1 ad d)) ys.length (d - 1))) C 24 vc ∧
    LReads (W.setCell ⟨B, 0, none⟩ (.slice (some (tl1 ad d)) ys.length (d - 1))) (okk T Ba Bb) vc zs ∧
    Own2 Ba Bb W (W.setCell ⟨B, 0, none⟩ (.slice (some (tl1 ad d)) ys.length (d - 1))) := by
  have hst : Stir (fun k => k = B) W (W.setCell ⟨B, 0, none⟩ (.slice (some (tl1 ad d)) ys.length (d - 1))) := (Stir.refl (fun k => k = B) W).setCell (p := ⟨B, 0, none⟩) (fun _ => rfl) _
  have hk : ∀ k, okk T Ba Bb k → ¬ k = B := by rintro k ⟨_, h1, h2⟩ rfl; rcases hB with ⟨e, _⟩ | ⟨e, _⟩; exact h1 e; exact h2 e
  obtain ⟨ad', d', he, h1, h2, h3, h4, h5⟩ := r.cons
  cases he
  refine ⟨hb.set _, ?_, hc.other hBC.symm _, rc.touch hst hk, hst.mono ?_, ?_⟩
  · exact (h5 (tl1 ad d) (d - 1) (by omega) (fun e => if_neg e)).touch hst hk
  · rintro k _ rfl; rcases hB with ⟨e, _⟩ | ⟨e, _⟩; exact .inl e; exact .inr e
  · rintro k e
    rcases hB with ⟨rfl, rfl⟩ | ⟨rfl, rfl⟩ <;> rcases e with rfl | rfl
    · exact ⟨_, hb, rfl⟩
    · exact ⟨_, hc, rfl⟩
    · exact ⟨_, hc, rfl⟩
    · exact ⟨_, hb, rfl⟩
end
theorem run_drop1 (ad : Addr) (n d : Nat) (h : n + 1 ≤ d) (W : World) :
    (Instr.slice 24 (.slice (some ad) (n + 1) d) (some (.int .i64 1)) none none).run Try.prog W = .ok (.slice (some (tl1 ad d)) n (d - 1)) W := by
  rw [run_slice_l W 24 (some ad) (n + 1) d (by kernel_rfl) .i64 1 (by omega) (by omega)]
  have hs : (sizeOf (Try.prog.elem 24)).run Try.prog W = .ok 1 W := by kernel_rfl
  rw [hs]
  simp only [Result.andThen, sliced, tl1, Int.toNat_one, Nat.mul_one, Option.map_some, Nat.add_sub_cancel]
  split <;> rfl
theorem ltS_asymm {a b : List UInt8} (h : Op.bytesLess a b = true) : Op.bytesLess b a = false := by
  cases hb : Op.bytesLess b a with
  | false => rfl
  | true => have := Go.Pk.less_trans _ _ _ h hb; rw [Go.Pk.less_irrefl] at this; cases this
theorem ltS_ne {a b : List UInt8} (h : Op.bytesLess a b = true) : (b == a) = false := by
  rw [beq_eq_false_iff_ne]; rintro rfl; rw [Go.Pk.less_irrefl] at h; cases h

end Go.Proofs.Ytelgfangaigncaa
