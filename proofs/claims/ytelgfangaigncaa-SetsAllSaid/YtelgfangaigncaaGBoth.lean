/- sets.Union, Both and Minus in the print's words. Conditions: bounds on the lists. -/
import Derived.Test.YtelgfangaigncaaSC
import Derived.Test.YtelgfangaigncaaG0
import Derived.Test.YtelgfangaigncaaGCl
namespace Go.Proofs.Ytelgfangaigncaa.G
open Go.RowKit Go.Cav Go.Proofs.YtelgfangaigncaaW Go.Proofs.YtelgfangaigncaaW.PrintWords Go.Proofs.YtelgfangaigncaaW.PrintLast Go.Proofs.YtelgfangaigncaaW.PrintMore

/-- a row that reads as texts, where its cells may lie -/
theorem C_L {w : World} {A : Option Addr} {c : Nat} {l : List ByteArray} (h : Kd.C Kd.string w A l.length l) (hc : l.length ≤ c) : LReads w (fun k => k < w.heap.size) (.slice A l.length c) l := by
  refine ⟨A, c, rfl, hc, fun hne => ?_⟩
  have hpos : 0 < l.length := List.length_pos_iff.2 hne
  obtain ⟨ad, rfl, hcell⟩ := h.2.2 hpos
  have cell : ∀ j x, l[j]? = some x → w.cell? (ad.add j) = some (.string x) := by
    intro j x hj
    obtain ⟨cs, h1, h2, h3⟩ := hcell j x hj
    obtain rfl : cs = [.string x] := h2
    have := h3 0 _ rfl
    simpa [Kd.string, Kd.scalar] using this
  have hb := World.block_lt_of_cell? w _ (cell 0 l[0] (List.getElem?_eq_getElem hpos))
  rw [Cav.add_block] at hb
  exact ⟨ad, rfl, hb, cell⟩
theorem R_strings {w : World} {base : Nat} {v : Value} {l : List ByteArray} (h : w.ownsRow base 9 1 v l.length (l.map .string)) : Kd.R Kd.string 9 w base (fun k => base ≤ k) v l := by
  refine ⟨fun k hk => own_base h k hk, l.map .string, h, by simp [Kd.string, Kd.scalar], fun j p hj => ?_⟩
  simp only [Kd.string, Kd.scalar, Nat.mul_one]
  show _ = [Value.string p]
  rw [List.drop_eq_getElem_cons (by rw [List.length_map]; exact (List.getElem?_eq_some_iff.1 hj).1)]
  simp [(List.getElem?_eq_some_iff.1 hj).2]
theorem V_strings {w : World} {base B : Nat} {v : Value} {l : List ByteArray} (h : w.ownsRow base 9 1 v l.length (l.map .string)) (hb : B ≤ base) : Kd.V Kd.string 9 w B (fun k => B ≤ k) v l :=
  Kd.V_mono (Kd.R_V (R_strings h)) (fun k hk => Nat.le_trans hb hk)
theorem V_L {w : World} {B : Nat} {ok : Nat → Prop} {v : Value} {l : List ByteArray} (h : Kd.V Kd.string 9 w B ok v l) : LReads w (fun k => k < w.heap.size) v l := by
  obtain ⟨A, c, rfl⟩ := Kd.V_slice h
  obtain ⟨_, h2, h3⟩ := Kd.V_reads' h
  exact C_L h3 h2
/-- an element of a list of lists -/
theorem C_elem {w : World} {A : Option Addr} {l : List (List ByteArray)} (h : Kd.C (Kd.slice 9 Kd.string) w A l.length l) (i : Nat) (x : List ByteArray) (hx : l[i]? = some x) :
    ∃ ad a c, A = some ad ∧ w.cell? (ad.add i) = some (.slice a x.length c) ∧ LReads w (fun k => k < w.heap.size) (.slice a x.length c) x := by
  have hi : i < l.length := (List.getElem?_eq_some_iff.1 hx).1
  obtain ⟨ad, rfl, hcell⟩ := h.2.2 (by omega)
  obtain ⟨cs, h1, ⟨a, c, rfl, h3, h4⟩, h5⟩ := hcell i x hx
  have := h5 0 _ rfl
  exact ⟨ad, a, c, rfl, by simpa [Kd.slice] using this, C_L h4 h3⟩

def yesW : Int → Bool := fun _ => true
def unionP (l : List (List ByteArray)) (acc : List ByteArray) : List ByteArray := l.foldl (fun out b => pickL (fun _ => true) (twoL out b)) acc
def bothP (l : List (List ByteArray)) (acc : List ByteArray) : List ByteArray := l.foldl (fun out b => pickL (fun x => x == 3) (twoL out b)) acc
def total (l : List (List ByteArray)) : Nat := (l.map List.length).sum
theorem unionP_len : ∀ (l : List (List ByteArray)) (acc : List ByteArray), (unionP l acc).length ≤ acc.length + total l
  | [], acc => by simp [unionP, total]
  | b :: l, acc => by
    have h1 := unionP_len l (pickL (fun _ => true) (twoL acc b))
    have h2 := pickL_len (fun _ => true) (twoL acc b)
    have h3 := twoL_len acc b
    simp only [unionP, List.foldl_cons, total, List.map_cons, List.sum_cons] at h1 ⊢
    omega
theorem bothP_len : ∀ (l : List (List ByteArray)) (acc : List ByteArray), (bothP l acc).length ≤ acc.length + total l
  | [], acc => by simp [bothP, total]
  | b :: l, acc => by
    have h1 := bothP_len l (pickL (fun x => x == 3) (twoL acc b))
    have h2 := pickL_len (fun x => x == 3) (twoL acc b)
    have h3 := twoL_len acc b
    simp only [bothP, List.foldl_cons, total, List.map_cons, List.sum_cons] at h1 ⊢
    omega
theorem total_append (a b : List (List ByteArray)) : total (a ++ b) = total a + total b := by simp [total]
theorem unionP_take (l : List (List ByteArray)) (k : Nat) (x : List ByteArray) (h : l[k]? = some x) (acc : List ByteArray) : unionP (l.take (k + 1)) acc = pickL (fun _ => true) (twoL (unionP (l.take k) acc) x) := by
  rw [List.take_add_one, h]; simp [unionP]
theorem bothP_take (l : List (List ByteArray)) (k : Nat) (x : List ByteArray) (h : l[k]? = some x) (acc : List ByteArray) : bothP (l.take (k + 1)) acc = pickL (fun x => x == 3) (twoL (bothP (l.take k) acc) x) := by
  rw [List.take_add_one, h]; simp [bothP]
theorem total_take (l : List (List ByteArray)) (k : Nat) (x : List ByteArray) (h : l[k]? = some x) : total (l.take k) + x.length ≤ total l := by
  have h1 : l = l.take k ++ x :: l.drop (k + 1) := by
    conv => lhs; rw [← List.take_append_drop k l]
    rw [List.drop_eq_getElem_cons (List.getElem?_eq_some_iff.1 h).1, (List.getElem?_eq_some_iff.1 h).2]
  have h2 := congrArg total h1
  rw [total_append] at h2
  simp only [total, List.map_cons, List.sum_cons] at h2 ⊢
  omega

def sets_Union.f (l0 : List (List ByteArray)) : Option (List ByteArray) := if l0.length ≤ 1000000000000 ∧ total l0 ≤ 1000000000000 then some (unionP l0 []) else none
set_option maxRecDepth 100000 in
set_option maxHeartbeats 2000000 in
theorem sets_Union.calls (A0 : Option Addr) (c0 : Nat) (l0 : List (List ByteArray)) (r : List ByteArray) (w : World) (hr0 : Kd.C (Kd.slice 9 Kd.string) w A0 l0.length l0) (hc0 : l0.length ≤ c0) (h : sets_Union.f l0 = some r) :
    Calls Try.prog 10 #[.slice A0 l0.length c0] w fun e w' => ∃ v0_ : Value, e = .returned (v0_) ∧ Kd.V Kd.string 9 w' w.heap.size (fun k_ => (w.heap.size ≤ k_)) v0_ r ∧ Below w.heap.size w w' := by
  unfold sets_Union.f at h
  split at h
  case isFalse => cases h
  case isTrue hb =>
    obtain rfl := Option.some.inj h
    obtain ⟨hb1, hb2⟩ := hb
    have HR := Lib.hid hr0
    clear hr0 h
    go_enter Try.func10, Try.ntmps10
    go_wp2
    go_loopw [3, 8] (fun v i wr => ∃ k : Nat, k ≤ l0.length ∧ i = .int .i64 k ∧ Kd.V Kd.string 9 wr w.heap.size (fun k => w.heap.size ≤ k) v (unionP (l0.take k) []) ∧ Below w.heap.size w wr) (fun _ i _ => l0.length - (intOf i).toNat)
    case atStart => exact ⟨0, Nat.zero_le _, rfl, Kd.V_nil _ _ _ _ _, Below.refl _ _⟩
    case round =>
      obtain ⟨k, hk, rfl, hV, hB⟩ := hrel
      by_cases hlt : k < l0.length
      · obtain ⟨x, hx⟩ : ∃ x, l0[k]? = some x := ⟨_, List.getElem?_eq_getElem hlt⟩
        obtain ⟨ad, a, c, rfl, hcell, hL⟩ := C_elem (Kd.C_below HR.out hB) k x hx
        obtain ⟨vA, vc, hv⟩ := Kd.V_slice hV
        have hl1 := unionP_len (l0.take k) []
        have hl2 := total_take l0 k x hx
        have hVL := V_L hV
        have htk := unionP_take l0 k x hx []
        have ht := those22 (unionP (l0.take k) []) x _ _ wr (by simp only [List.length_nil] at hl1; omega) hVL hL
        rw [← htk] at ht
        rw [hv] at ht
        have HB := Lib.hid hB
        have hsz := hB.size
        clear hV hB hL hVL hl1 hl2 hx htk
        subst hv
        go_wp2_with (go_at_call 21; refine ht.mono ?_; rintro e w1 ⟨v1, rfl, hown, hbl⟩)
        go_roundw
        case rel => exact ⟨k + 1, by omega, by go_num, V_strings hown hsz, HB.out.trans (hbl.mono hsz)⟩
        case measure => simp [intOf]; omega
      · obtain rfl : k = l0.length := by omega
        rw [List.take_length] at hV
        have HV := Lib.hid hV
        have HB := Lib.hid hB
        clear hV hB
        go_wp2
        go_ret
        exact ⟨_, rfl, HV.out, HB.out⟩

/-- what lies behind a list's first -/
theorem C_tail {w : World} {A : Option Addr} {c : Nat} {x : List ByteArray} {ls : List (List ByteArray)} (h : Kd.C (Kd.slice 9 Kd.string) w A (x :: ls).length (x :: ls)) (hc : (x :: ls).length ≤ c) :
    ∃ ad a c', A = some ad ∧ w.cell? ad = some (.slice a x.length c') ∧ x.length ≤ c' ∧ Kd.C Kd.string w a x.length x ∧
      ∀ k y, ls[k]? = some y → ∃ a c', w.cell? ((tl1 ad c).add k) = some (.slice a y.length c') ∧ LReads w (fun k => k < w.heap.size) (.slice a y.length c') y := by
  obtain ⟨ad, rfl, hcell⟩ := h.2.2 (by simp)
  obtain ⟨cs, h1, ⟨a, c', rfl, h3, h4⟩, h5⟩ := hcell 0 x rfl
  have h0 := h5 0 _ rfl
  have e0 : ad.add (0 * 1 + 0) = ad := by unfold Addr.add; simp
  refine ⟨ad, a, c', rfl, by rw [← e0]; exact h0, h3, h4, fun k y hk => ?_⟩
  obtain ⟨ad2, a2, c2, e1, e2, e3⟩ := C_elem h (k + 1) y (by simpa using hk)
  cases e1
  refine ⟨a2, c2, ?_, e3⟩
  have hne : c ≠ 1 := by
    rintro rfl
    simp only [List.length_cons] at hc
    have : ls = [] := List.eq_nil_of_length_eq_zero (by omega)
    subst this; simp at hk
  have e : (tl1 ad c).add k = ad.add (k + 1) := by
    unfold tl1; rw [if_neg hne]; unfold Addr.add
    by_cases hj0 : k = 0
    · subst hj0; simp
    · simp [hj0]; omega
  rw [e]; exact e2
theorem run_drop34 (ad : Addr) (n d : Nat) (h : n + 1 ≤ d) (W : World) :
    (Instr.slice 34 (.slice (some ad) (n + 1) d) (some (.int .i64 1)) none none).run Try.prog W = .ok (.slice (some (tl1 ad d)) n (d - 1)) W := by
  rw [run_slice_l W 34 (some ad) (n + 1) d (by kernel_rfl) .i64 1 (by omega) (by omega)]
  have hs : (sizeOf (Try.prog.elem 34)).run Try.prog W = .ok 1 W := by kernel_rfl
  rw [hs]
  simp only [Result.andThen, sliced, tl1, Int.toNat_one, Nat.mul_one, Option.map_some, Nat.add_sub_cancel]
  split <;> rfl
def bothAll : List (List ByteArray) → List ByteArray
  | [] => []
  | x :: ls => bothP ls x
def sets_Both.f (l0 : List (List ByteArray)) : Option (List ByteArray) := if l0.length ≤ 1000000000000 ∧ total l0 ≤ 1000000000000 then some (bothAll l0) else none
set_option maxRecDepth 100000 in
set_option maxHeartbeats 2000000 in
theorem sets_Both.calls (A0 : Option Addr) (c0 : Nat) (l0 : List (List ByteArray)) (r : List ByteArray) (w : World) (hr0 : Kd.C (Kd.slice 9 Kd.string) w A0 l0.length l0) (hc0 : l0.length ≤ c0) (h : sets_Both.f l0 = some r) :
    Calls Try.prog 11 #[.slice A0 l0.length c0] w fun e w' => ∃ v0_ : Value, e = .returned (v0_) ∧ Kd.V Kd.string 9 w' w.heap.size (fun k_ => (w.heap.size ≤ k_)) v0_ r ∧ Below w.heap.size w w' := by
  unfold sets_Both.f at h
  split at h
  case isFalse => cases h
  case isTrue hb =>
    obtain rfl := Option.some.inj h
    obtain ⟨hb1, hb2⟩ := hb
    cases l0 with
    | nil =>
      simp only [List.length_nil]
      clear hr0 h hb1 hb2
      go_enter Try.func11, Try.ntmps11
      go_wp2
      go_ret
      exact ⟨_, rfl, Kd.V_nil _ _ _ _ _, Below.refl _ _⟩
    | cons x ls =>
      obtain ⟨ad, a, c', rfl, hcell, hx1, hx2, htl⟩ := C_tail hr0 hc0
      have hcl := slices_Clone_string.calls a c' x x w hx2 hx1 (by unfold slices_Clone_string.f; rw [if_pos]; simp only [total, List.map_cons, List.sum_cons] at hb2; omega)
      have hsl := run_drop34 ad ls.length c0 (by simpa using hc0)
      have hne : ((ls.length : Int) + 1 == 0) = false := by rw [beq_eq_false_iff_ne]; omega
      have hl : ls.length + 1 ≤ 1000000000000 := by simpa using hb1
      have ht : x.length + total ls ≤ 1000000000000 := by simpa [total] using hb2
      have HT := Lib.hid htl
      have Ht := Lib.hid ht
      clear hr0 h htl hb1 hb2 hx1 hx2 ht
      simp only [List.length_cons] at hc0 ⊢
      go_enter Try.func11, Try.ntmps11
      go_wp2_with (go_at_call 23; refine hcl.mono ?_; rintro e w1 ⟨v1, rfl, hR, hbl⟩)
      have hV1 : Kd.V Kd.string 9 w1 w.heap.size (fun k => w.heap.size ≤ k) v1 x := Kd.V_mono (Kd.R_V (Kd.R_bound hR)) (fun k hk => hk.2.1)
      clear hR hcl hcell
      go_loopw [3, 16] (fun v i wr => ∃ k : Nat, k ≤ ls.length ∧ i = .int .i64 k ∧ Kd.V Kd.string 9 wr w.heap.size (fun k => w.heap.size ≤ k) v (bothP (ls.take k) x) ∧ Below w.heap.size w wr) (fun _ i _ => ls.length - (intOf i).toNat)
      case atStart => exact ⟨0, Nat.zero_le _, rfl, hV1, hbl⟩
      case round =>
        obtain ⟨k, hk, rfl, hV, hB⟩ := hrel
        clear hsl
        by_cases hlt : k < ls.length
        · obtain ⟨y, hy⟩ : ∃ y, ls[k]? = some y := ⟨_, List.getElem?_eq_getElem hlt⟩
          obtain ⟨a2, c2, hc2, hL2⟩ := HT.out k y hy
          have hst := Stir.of_below hB (fun _ => False)
          have hcell := hst.cell hc2 (fun e => e)
          have hL : LReads wr (fun k => k < wr.heap.size) (.slice a2 y.length c2) y := by
            obtain ⟨A', c', e1, e2, e3⟩ := hL2.touch hst (fun _ _ e => e)
            refine ⟨A', c', e1, e2, fun hx => ?_⟩
            obtain ⟨ad', e4, e5, e6⟩ := e3 hx
            exact ⟨ad', e4, Nat.lt_of_lt_of_le e5 hB.size, e6⟩
          obtain ⟨vA, vc, hv⟩ := Kd.V_slice hV
          have hl1 := bothP_len (ls.take k) x
          have hl2 := total_take ls k y hy
          have Hto := Ht.out
          have hVL := V_L hV
          have htk := bothP_take ls k y hy x
          have ht := those24 (bothP (ls.take k) x) y _ _ wr (by omega) hVL hL
          rw [← htk] at ht
          rw [hv] at ht
          have HB := Lib.hid hB
          have hsz := hB.size
          clear hV hB hL hVL hl1 hl2 hy htk Hto hst hc2 hL2 hbl hV1
          subst hv
          go_wp2_with (go_at_call 21; refine ht.mono ?_; rintro e w1 ⟨v1, rfl, hown, hbl⟩)
          go_roundw
          case rel => exact ⟨k + 1, by omega, by go_num, V_strings hown hsz, HB.out.trans (hbl.mono hsz)⟩
          case measure => simp [intOf]; omega
        · obtain rfl : k = ls.length := by omega
          rw [List.take_length] at hV
          have HV := Lib.hid hV
          have HB := Lib.hid hB
          clear hV hB hV1 hbl
          go_wp2
          go_ret
          exact ⟨_, rfl, HV.out, HB.out⟩
def sets_Minus.f (l0 : List ByteArray) (l1 : List (List ByteArray)) : Option (List ByteArray) := if l1.length ≤ 1000000000000 ∧ l0.length + total l1 ≤ 1000000000000 then some (pickL (fun x => x == 1) (twoL l0 (unionP l1 []))) else none
set_option maxRecDepth 100000 in
set_option maxHeartbeats 2000000 in
theorem sets_Minus.calls (A0 : Option Addr) (c0 : Nat) (l0 : List ByteArray) (A1 : Option Addr) (c1 : Nat) (l1 : List (List ByteArray)) (r : List ByteArray) (w : World) (hr0 : Kd.C Kd.string w A0 l0.length l0) (hc0 : l0.length ≤ c0) (hr1 : Kd.C (Kd.slice 9 Kd.string) w A1 l1.length l1) (hc1 : l1.length ≤ c1) (h : sets_Minus.f l0 l1 = some r) :
    Calls Try.prog 12 #[.slice A0 l0.length c0, .slice A1 l1.length c1] w fun e w' => ∃ v0_ : Value, e = .returned (v0_) ∧ Kd.V Kd.string 9 w' w.heap.size (fun k_ => (w.heap.size ≤ k_)) v0_ r ∧ Below w.heap.size w w' := by
  unfold sets_Minus.f at h
  split at h
  case isFalse => cases h
  case isTrue hb =>
    obtain rfl := Option.some.inj h
    obtain ⟨hb1, hb2⟩ := hb
    have hu := sets_Union.calls A1 c1 l1 (unionP l1 []) w hr1 hc1 (by unfold sets_Union.f; rw [if_pos]; omega)
    have HL := Lib.hid (C_L hr0 hc0)
    have hlen := unionP_len l1 []
    have Hl := Lib.hid hlen
    clear hr0 hr1 h hlen
    go_enter Try.func12, Try.ntmps12
    go_wp2_with (go_at_call 10; refine hu.mono ?_; rintro e w1 ⟨v1, rfl, hV, hbl⟩)
    have hst := Stir.of_below hbl (fun _ => False)
    have hL0 : LReads w1 (fun k => k < w1.heap.size) (.slice A0 l0.length c0) l0 := by
      obtain ⟨A', c', e1, e2, e3⟩ := HL.out.touch hst (fun _ _ e => e)
      refine ⟨A', c', e1, e2, fun hx => ?_⟩
      obtain ⟨ad', e4, e5, e6⟩ := e3 hx
      exact ⟨ad', e4, Nat.lt_of_lt_of_le e5 hbl.size, e6⟩
    have hl := Hl.out
    have ht := those25 l0 (unionP l1 []) _ _ w1 (by simp only [List.length_nil] at hl; omega) hL0 (V_L hV)
    have HB := Lib.hid hbl
    have hsz := hbl.size
    clear hst hL0 hl hV hbl hu
    refine ht.mono ?_
    rintro e w2 ⟨v2, rfl, hown, hbl2⟩
    go_wp2
    go_ret
    exact ⟨_, rfl, V_strings hown hsz, HB.out.trans (hbl2.mono hsz)⟩
end Go.Proofs.Ytelgfangaigncaa.G
