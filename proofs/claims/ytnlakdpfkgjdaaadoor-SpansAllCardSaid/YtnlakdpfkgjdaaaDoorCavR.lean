/- Words and laws of no program: how an argument's data are read, type by type, from what a row says of them. No conditions. -/
import Derived.ProofKit
import Derived.OpenShut
import Derived.ShutString
import Derived.ChangeOld
import Derived.Below
import Derived.SizedLaws
import Derived.Carry
import Derived.Deep.Slices
import Derived.Test.YtnlakdpfkgjdaaaDoorCavA
namespace Go.Cav
open Go Go.RowKit Go.ChangeShapes Go.WideShapes Go.ChangeAt
open Go.ChangeMaps (open_string shut_string)

/-- What is weighed lies within the form's reach. -/
def Fits {H : Type} (P : Program) (t : TypeId) (d : DataW H) : Prop := ∀ k ∈ DataW.weights P t d, k ≤ 140737488351232

/-- Whatever reads as a datum of type t reads so. -/
def Opens (P : Program) (t : TypeId) {α : Type} (R : World → List Value → α → Prop) : Prop :=
  ∀ {H : Type} (enc : TypeId × Value → H) (w : World) (fuel : Nat) (cs : List Value) (d : DataW H) (ps : List MemPlace),
    DataW.trod enc P w 0 (fun _ => true) true fuel t cs = some (d, ps) → Fits P t d → ∃ x, R w cs x

def rInt (k : IntKind) (_ : World) (cs : List Value) (x : Int) : Prop := cs = [.int k x] ∧ (Lit.int k x).wf = true
def rByte (_ : World) (cs : List Value) (x : UInt8) : Prop := cs = [B8 x]
def rBool (_ : World) (cs : List Value) (b : Bool) : Prop := cs = [.bool b]
def rStr (_ : World) (cs : List Value) (s : ByteArray) : Prop := cs = [.string s] ∧ s.size ≤ 140737488351232
def rSlice {α : Type} (size bytes : Nat) (R : World → List Value → α → Prop) (w : World) (cs : List Value) (xs : List α) : Prop :=
  (cs = [.slice none 0 0] ∧ xs = []) ∨ ∃ a cap, cs = [.slice (some a) xs.length cap] ∧ xs.length ≤ cap ∧ cap * bytes ≤ 140737488351232 ∧ cap ≤ maxLen ∧
    ∀ i x, xs[i]? = some x → ∃ ci : List Value, ci.length = size ∧ (∀ j u, ci[j]? = some u → w.cell? (a.add (i * size + j)) = some u) ∧ R w ci x

variable {P : Program} {t : TypeId}

theorem opens_int {k : IntKind} (ht : P.underlying t = some (.int k)) : Opens P t (rInt k) := by
  intro H enc w fuel cs d ps h _
  obtain ⟨n, rfl, hw⟩ : ∃ n, cs = [.int k n] ∧ (Lit.int k n).wf = true := by
    cases fuel with
    | zero => simp [DataW.trod] at h
    | succ m =>
      unfold DataW.trod at h
      rw [ht] at h
      split at h <;> simp_all
  exact ⟨n, rfl, hw⟩

theorem opens_byte (ht : P.underlying t = some (.int .u8)) : Opens P t rByte := by
  intro H enc w fuel cs d ps h hf
  obtain ⟨n, rfl, hw⟩ := opens_int ht enc w fuel cs d ps h hf
  have hb : 0 ≤ n ∧ n ≤ 255 := by
    simp only [Lit.wf] at hw
    revert hw; simp [IntKind.min, IntKind.max, IntKind.signed, IntKind.bits]
  refine ⟨UInt8.ofNat n.toNat, ?_⟩
  have e : (UInt8.ofNat n.toNat).toNat = n.toNat := by rw [UInt8.toNat_ofNat']; omega
  unfold rByte B8
  rw [e, Int.toNat_of_nonneg hb.1]

theorem opens_bool (ht : P.underlying t = some .bool) : Opens P t rBool := by
  intro H enc w fuel cs d ps h _
  obtain ⟨b, rfl⟩ : ∃ b, cs = [.bool b] := by
    cases fuel with
    | zero => simp [DataW.trod] at h
    | succ m =>
      unfold DataW.trod at h
      rw [ht] at h
      split at h <;> simp_all
  exact ⟨b, rfl⟩

theorem opens_str (ht : P.underlying t = some .string) : Opens P t rStr := by
  intro H enc w fuel cs d ps h hf
  obtain ⟨s, rfl, hd⟩ : ∃ s, cs = [.string s] ∧ d = .lit (.string s.data.toList) := by
    cases fuel with
    | zero => simp [DataW.trod] at h
    | succ m =>
      unfold DataW.trod at h
      rw [ht] at h
      split at h <;> simp_all
  subst hd
  refine ⟨s, rfl, ?_⟩
  have := hf s.data.toList.length (by simp [DataW.weights])
  simpa using this

theorem weights_all {H : Type} {e : TypeId} : ∀ {l : List (DataW H)} {d : DataW H}, d ∈ l → ∀ k ∈ DataW.weights P e d, k ∈ DataW.weightsAll P e l
  | x :: l, d, hd, k, hk => by
    simp only [DataW.weightsAll, List.mem_append]
    rcases List.mem_cons.1 hd with rfl | hd
    · exact .inl hk
    · exact .inr (weights_all hd k hk)

theorem opens_slice {α : Type} {e : TypeId} {size bytes : Nat} {R : World → List Value → α → Prop} (ht : P.underlying t = some (.slice e)) (hc : P.cellsOf e = size) (hb : P.bytesOf e = bytes) (he : Opens P e R) : Opens P t (rSlice size bytes R) := by
  intro H enc w fuel cs d ps h hf
  rcases Deep.open_slice ht h with ⟨rfl, _⟩ | ⟨a, len, cap, m, n, D, Pl, rfl, _, hl, hm, hmm, hx, hel⟩
  · exact ⟨[], .inl ⟨rfl, rfl⟩⟩
  · obtain rfl : m = cap := by simpa using hmm
    obtain ⟨rfl, rfl⟩ := Prod.mk.inj hx
    have hw : m * bytes ≤ 140737488351232 := by
      have := hf ((((List.range len).map D).length + ((List.range (m - len)).map fun j => D (len + j)).length) * P.bytesOf e) (by simp [DataW.weights, ht])
      rw [hb] at this
      simp only [List.length_map, List.length_range] at this
      rwa [show len + (m - len) = m by omega] at this
    have hi : ∀ i, i < len → ∃ x, ∃ ci : List Value, ci.length = size ∧ (∀ j u, ci[j]? = some u → w.cell? (a.add (i * size + j)) = some u) ∧ R w ci x := by
      intro i hi
      obtain ⟨ci, h1, h2⟩ := hel i (by omega)
      obtain ⟨x, hR⟩ := he enc w n ci (D i) (Pl i) h2 (fun k hk => hf k (by
        simp only [DataW.weights, ht, List.mem_cons, List.mem_append]
        exact .inr (.inl (weights_all (List.mem_map.2 ⟨i, List.mem_range.2 hi, rfl⟩) k hk))))
      obtain ⟨_, hlen, hcell⟩ := World.cells?_some h1
      rw [hc] at hlen hcell h1
      refine ⟨x, ci, hlen, fun j u hu => ?_, hR⟩
      have hj : j < size := by rw [← hlen]; exact (List.getElem?_eq_some_iff.1 hu).1
      have := hcell j hj
      rw [Deep.add_add] at this
      rw [this]; exact hu
    have : ∃ xs : List α, xs.length = len ∧ ∀ i x, xs[i]? = some x → ∃ ci : List Value, ci.length = size ∧ (∀ j u, ci[j]? = some u → w.cell? (a.add (i * size + j)) = some u) ∧ R w ci x := by
      clear hf h hmm hel hl hx
      induction len with
      | zero => exact ⟨[], rfl, fun i x hx => by simp at hx⟩
      | succ k ih =>
        obtain ⟨xs, h1, h2⟩ := ih (fun i h => hi i (by omega))
        obtain ⟨x, hx⟩ := hi k (by omega)
        refine ⟨xs ++ [x], by simp [h1], fun i y hy => ?_⟩
        by_cases hik : i < xs.length
        · rw [List.getElem?_append_left hik] at hy; exact h2 i y hy
        · have hik' : i < (xs ++ [x]).length := (List.getElem?_eq_some_iff.1 hy).1
          simp at hik'
          obtain rfl : i = xs.length := by omega
          simp at hy; subst hy
          rw [h1]; exact hx
    obtain ⟨xs, h1, h2⟩ := this
    exact ⟨xs, .inr ⟨a, m, by rw [h1], by omega, hw, hm, h2⟩⟩

/-- A struct's field, of whatever place. -/
theorem opens_field {H : Type} {enc : TypeId × Value → H} {w : World} {fuel : Nat} {cs : List Value} {d : DataW H} {ps : List MemPlace} {fs : Array Field} {α : Type} {R : World → List Value → α → Prop} (ht : P.underlying t = some (.struct fs))
    (h : DataW.trod enc P w 0 (fun _ => true) true fuel t cs = some (d, ps)) (hf : Fits P t d) (i : Nat) {f : Field} (hi : fs[i]? = some f) (ho : Opens P f.type R) : ∃ x, R w ((cs.drop f.offset).take (P.cellsOf f.type)) x := by
  obtain ⟨xs, n, _, hx, hlen, hxs, hfield⟩ := DataW.trod_struct ht h
  obtain ⟨rfl, rfl⟩ := Prod.mk.inj hx
  have hil : i < fs.size := (Array.getElem?_eq_some_iff.1 hi).1
  have hr := hfield i f hi
  obtain ⟨y, hy⟩ : ∃ y, xs[i]? = some y := ⟨_, List.getElem?_eq_getElem (by omega)⟩
  rw [hy] at hr
  refine ho enc w n _ y.1 y.2 hr (fun k hk => hf k ?_)
  simp only [DataW.weights, ht]
  exact DataW.weights_mem_each (j := i) (t := f.type) (d := y.1) (by simp [hi]) (by simp [hy]) k hk

theorem opens_cells {H : Type} {enc : TypeId × Value → H} {w : World} {fuel : Nat} {cs : List Value} {d : DataW H} {ps : List MemPlace} {fs : Array Field} (ht : P.underlying t = some (.struct fs))
    (h : DataW.trod enc P w 0 (fun _ => true) true fuel t cs = some (d, ps)) : cs.length = P.cellsOf t := by
  obtain ⟨_, _, _, _, hlen, _⟩ := DataW.trod_struct ht h
  exact hlen

/-- .. its place and size given. -/
theorem opens_at {H : Type} {enc : TypeId × Value → H} {w : World} {fuel : Nat} {cs : List Value} {d : DataW H} {ps : List MemPlace} {fs : Array Field} {α : Type} {R : World → List Value → α → Prop} (ht : P.underlying t = some (.struct fs))
    (h : DataW.trod enc P w 0 (fun _ => true) true fuel t cs = some (d, ps)) (hf : Fits P t d) (i : Nat) (u : TypeId) (off n : Nat) (hi : (fs[i]?).map (fun f => (f.type, f.offset)) = some (u, off)) (hc : P.cellsOf u = n) (ho : Opens P u R) : ∃ x, R w ((cs.drop off).take n) x := by
  obtain ⟨f, hf1, hf2⟩ := Option.map_eq_some_iff.1 hi
  obtain ⟨rfl, rfl⟩ := Prod.mk.inj hf2
  subst hc
  exact opens_field ht h hf i hf1 ho

/-! ### What stays -/
theorem rSlice.below {α : Type} {size bytes : Nat} {R : World → List Value → α → Prop} {w w' : World} {cs : List Value} {xs : List α} (hR : ∀ ci x, R w ci x → R w' ci x) (h : rSlice size bytes R w cs xs) (hb : Below w.heap.size w w') : rSlice size bytes R w' cs xs := by
  rcases h with h | ⟨a, cap, rfl, h1, h2, h3, hel⟩
  · exact .inl h
  · refine .inr ⟨a, cap, rfl, h1, h2, h3, fun i x hx => ?_⟩
    obtain ⟨ci, c1, c2, c3⟩ := hel i x hx
    exact ⟨ci, c1, fun j u hu => (Stir.of_below hb (fun _ => False)).cell (c2 j u hu) (fun e => e), hR _ _ c3⟩

theorem rSlice.bytes {w : World} {v : Value} {l : List UInt8} (h : rSlice 1 1 rByte w [v] l) : Reads w 1 v l.length (l.map B8) ∧ l.length ≤ 140737488351232 := by
  rcases h with ⟨h1, rfl⟩ | ⟨a, cap, h1, h2, h3, _, hel⟩
  · cases h1; exact ⟨Reads.nil _ _, by simp⟩
  · cases h1
    refine ⟨⟨by simp, .inr ⟨a, cap, rfl, fun j u hu => ?_⟩⟩, by omega⟩
    rw [List.getElem?_map] at hu
    obtain ⟨x, hx, rfl⟩ := Option.map_eq_some_iff.1 hu
    obtain ⟨ci, c1, c2, c3⟩ := hel j x hx
    cases c3
    have := c2 0 (B8 x) rfl
    simpa using this

theorem wf_range {k : IntKind} {x : Int} (h : (Lit.int k x).wf = true) : k.min ≤ x ∧ x ≤ k.max := by
  simp only [Lit.wf] at h
  simpa using h
theorem wf_i64 {x : Int} (h : (Lit.int .i64 x).wf = true) : -9223372036854775808 ≤ x ∧ x ≤ 9223372036854775807 := by
  simp only [Lit.wf] at h
  revert h; simp [IntKind.min, IntKind.max, IntKind.signed, IntKind.bits]
theorem wf_u8 {x : Int} (h : (Lit.int .u8 x).wf = true) : 0 ≤ x ∧ x ≤ 255 := by
  simp only [Lit.wf] at h
  revert h; simp [IntKind.min, IntKind.max, IntKind.signed, IntKind.bits]
theorem wf_u16 {x : Int} (h : (Lit.int .u16 x).wf = true) : 0 ≤ x ∧ x ≤ 65535 := by
  simp only [Lit.wf] at h
  revert h; simp [IntKind.min, IntKind.max, IntKind.signed, IntKind.bits]
theorem wf_i32 {x : Int} (h : (Lit.int .i32 x).wf = true) : -2147483648 ≤ x ∧ x ≤ 2147483647 := by
  simp only [Lit.wf] at h
  revert h; simp [IntKind.min, IntKind.max, IntKind.signed, IntKind.bits]

end Go.Cav
