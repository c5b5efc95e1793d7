/- Small laws about numbers, texts and lists, and about functions with a number of rounds; for plain statements. No conditions. -/
import Derived.Test.YtnlakdpfkgjdaaaDoorWMore
import Derived.IntWalk
namespace Go.Pk
open Go Go.RowKit Go.Proofs.YtnlakdpfkgjdaaaDoorW.PrintWords

theorem loop_spec (b : ByteArray) (n : Nat) : ∀ i r, b.size - i = n → ByteArray.toList.loop b i r = r.reverse ++ b.data.toList.drop i := by
  induction n with
  | zero =>
    intro i r h
    unfold ByteArray.toList.loop
    have hl : b.data.toList.length = b.size := by rw [Array.length_toList]; rfl
    rw [if_neg (by omega), List.drop_eq_nil_of_le (by omega), List.append_nil]
  | succ n ih =>
    intro i r h
    unfold ByteArray.toList.loop
    have hl : b.data.toList.length = b.size := by rw [Array.length_toList]; rfl
    rw [if_pos (by omega), ih (i + 1) _ (by omega), List.reverse_cons, List.append_assoc, List.singleton_append, List.drop_eq_getElem_cons (by omega : i < b.data.toList.length)]
    congr 2
    have : i < b.data.size := by rw [Array.length_toList] at hl; omega
    simp [ByteArray.get!, getElem!_pos b.data i this]
theorem toList_data (b : ByteArray) : b.toList = b.data.toList := by
  unfold ByteArray.toList
  rw [loop_spec b _ 0 [] rfl]; simp
theorem toList_inj {a b : ByteArray} (h : a.toList = b.toList) : a = b := by
  rw [toList_data, toList_data] at h
  cases a; cases b; simp at h; rw [h]
theorem toList_iff (a b : ByteArray) : a.toList = b.toList ↔ a = b := ⟨toList_inj, fun h => by rw [h]⟩
theorem toList_append (a b : ByteArray) : (a ++ b).toList = a.toList ++ b.toList := by simp [toList_data]
theorem toList_length (a : ByteArray) : a.toList.length = a.size := by rw [toList_data, Array.length_toList]; rfl

/-- the order of texts -/
theorem less_irrefl (a : List UInt8) : Op.bytesLess a a = false := by
  induction a with
  | nil => rfl
  | cons x a ih => simp [Op.bytesLess, ih]
theorem less_trans : ∀ a b c : List UInt8, Op.bytesLess a b = true → Op.bytesLess b c = true → Op.bytesLess a c = true
  | _, [], _, h, _ => by simp [Op.bytesLess] at h
  | _, _ :: _, [], _, h => by simp [Op.bytesLess] at h
  | [], _ :: _, _ :: _, _, _ => rfl
  | x :: a, y :: b, z :: c, h, k => by
    simp only [Op.bytesLess, Bool.or_eq_true, Bool.and_eq_true, decide_eq_true_eq, beq_iff_eq] at h k ⊢
    rcases h with h | ⟨rfl, h⟩ <;> rcases k with k | ⟨rfl, k⟩
    · exact .inl (UInt8.lt_trans h k)
    · exact .inl h
    · exact .inl k
    · exact .inr ⟨rfl, less_trans a b c h k⟩
theorem less_total : ∀ a b : List UInt8, Op.bytesLess a b = true ∨ a = b ∨ Op.bytesLess b a = true
  | [], [] => .inr (.inl rfl)
  | [], _ :: _ => .inl rfl
  | _ :: _, [] => .inr (.inr rfl)
  | x :: a, y :: b => by
    simp only [Op.bytesLess, Bool.or_eq_true, Bool.and_eq_true, decide_eq_true_eq, beq_iff_eq]
    rcases Nat.lt_trichotomy x.toNat y.toNat with h | h | h
    · exact .inl (.inl h)
    · obtain rfl : x = y := UInt8.toNat_inj.1 h
      rcases less_total a b with h | rfl | h
      · exact .inl (.inr ⟨rfl, h⟩)
      · exact .inr (.inl rfl)
      · exact .inr (.inr (.inr ⟨rfl, h⟩))
    · exact .inr (.inr (.inl h))
theorem less_append : ∀ a b s t : List UInt8, a.length = b.length → Op.bytesLess (a ++ s) (b ++ t) = (Op.bytesLess a b || (a == b && Op.bytesLess s t))
  | [], [], s, t, _ => by simp [Op.bytesLess]
  | x :: a, y :: b, s, t, h => by
    simp only [List.cons_append, Op.bytesLess, less_append a b s t (by simpa using h)]
    by_cases hxy : x = y
    · subst hxy; simp
    · have hf : (x == y) = false := by simpa using hxy
      have hg : (x :: a == y :: b) = false := by simp [hxy]
      simp [hf]
  | [], _ :: _, _, _, h => by cases h
  | _ :: _, [], _, _, h => by cases h

theorem w64 {n : Int} (h1 : -9223372036854775808 ≤ n) (h2 : n ≤ 9223372036854775807) : wrap64 n = n := by unfold wrap64; omega
theorem u64w (n : Int) : IntKind.u64.wrap n = n % 18446744073709551616 := by simp [IntKind.wrap, IntKind.signed, IntKind.bits]
theorem rdOf_at {α : Type} (d : α) (xs : List α) (k : Nat) (h : k < xs.length) : rdOf d xs (k : Int) = xs[k] := by
  unfold rdOf; rw [Int.toNat_natCast, List.getD_eq_getElem?_getD, List.getElem?_eq_getElem h]; rfl
theorem rdOf_get {α : Type} (d : α) (xs : List α) (k : Nat) (x : α) (h : xs[k]? = some x) : rdOf d xs (k : Int) = x := by
  unfold rdOf; rw [Int.toNat_natCast, List.getD_eq_getElem?_getD, h]; rfl
theorem wf_u8 {x : Int} (h : (Lit.int .u8 x).wf = true) : 0 ≤ x ∧ x ≤ 255 := by
  simp only [Lit.wf] at h
  revert h; simp [IntKind.min, IntKind.max, IntKind.signed, IntKind.bits]
theorem wf_u16 {x : Int} (h : (Lit.int .u16 x).wf = true) : 0 ≤ x ∧ x ≤ 65535 := by
  simp only [Lit.wf] at h
  revert h; simp [IntKind.min, IntKind.max, IntKind.signed, IntKind.bits]
theorem wf_i16 {x : Int} (h : (Lit.int .i16 x).wf = true) : -32768 ≤ x ∧ x ≤ 32767 := by
  simp only [Lit.wf] at h
  revert h; simp [IntKind.min, IntKind.max, IntKind.signed, IntKind.bits]
theorem wf_i32 {x : Int} (h : (Lit.int .i32 x).wf = true) : -2147483648 ≤ x ∧ x ≤ 2147483647 := by
  simp only [Lit.wf] at h
  revert h; simp [IntKind.min, IntKind.max, IntKind.signed, IntKind.bits]
theorem wf_i64 {x : Int} (h : (Lit.int .i64 x).wf = true) : -9223372036854775808 ≤ x ∧ x ≤ 9223372036854775807 := by
  simp only [Lit.wf] at h
  revert h; simp [IntKind.min, IntKind.max, IntKind.signed, IntKind.bits]

/-- A round: what a loop comes to at k + 1 is what its next state comes to at k. -/
theorem Ev.next {α : Type} {g f : Nat → Option α} {r : α} (h : ∀ k, g (k + 1) = f k) (k : Ev f r) : Ev g r := Ev.step h k
theorem Ev.seq {α β : Type} {g : Nat → Option α} {f : Nat → α → Option β} {a : α} {r : β} (h : Ev g a) (k : Ev (fun n => f n a) r) : Ev (fun n => (g n).bind (f n)) r := Ev.bind h k
theorem Ev.const {α : Type} {o : Option α} {r : α} (h : o = some r) : Ev (fun _ => o) r := ⟨0, fun _ _ => h⟩
theorem Ev.at {α : Type} {g : Nat → Option α} {r : α} (hg : ∀ k, LeO (g k) (g (k + 1))) (k : Nat) (h : g k = some r) : Ev g r := Ev.of hg h
/-- from the last place down to any -/
theorem up {n : Nat} {P : Nat → Prop} (last : P n) (step : ∀ i, i < n → P (i + 1) → P i) : ∀ i, i ≤ n → P i := by
  intro i hi
  obtain ⟨d, hd⟩ : ∃ d, i + d = n := ⟨n - i, by omega⟩
  induction d generalizing i with
  | zero => obtain rfl : i = n := by omega
            exact last
  | succ d ih => exact step i (by omega) (ih (i + 1) (by omega) (by omega))
theorem drop_at {α : Type} (l : List α) (i : Nat) (h : i < l.length) : l.drop i = l[i] :: l.drop (i + 1) := List.drop_eq_getElem_cons h
theorem dec_yes {α : Type} [DecidableEq α] {x y : α} (e : x = y) (a b : List α) : decide (a = b) = decide (x :: a = y :: b) := by subst e; simp
theorem dec_no {α : Type} [DecidableEq α] {x y : α} (e : ¬ x = y) (a b : List α) : false = decide (x :: a = y :: b) := by simp [e]
theorem Ev.same {α : Type} {g : Nat → Option α} {r r' : α} (h : Ev g r) (e : r = r') : Ev g r' := e ▸ h
theorem Ev.fn {α : Type} {g f : Nat → Option α} {r : α} (e : ∀ k, g k = f k) (h : Ev f r) : Ev g r := Ev.congr e h
theorem Ev.out {α : Type} {g : Nat → Option α} {r : α} (h : Ev g r) : ∃ K, ∀ k, K ≤ k → g k = some r := h
theorem beq_toList (a b : ByteArray) : (a.toList == b.toList) = decide (a = b) := by
  rw [Bool.eq_iff_iff]; simp [toList_iff]
end Go.Pk
