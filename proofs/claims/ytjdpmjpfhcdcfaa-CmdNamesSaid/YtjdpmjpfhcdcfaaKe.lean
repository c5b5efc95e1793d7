/- What the iterator over a command's keys hands on. Conditions: the keys lie within the words. -/
import Derived.Test.YtjdpmjpfhcdcfaaFi
namespace Go.Proofs.Ytjdpmjpfhcdcfaa
open Go.RowKit Go.Shelf Go.Cav
attribute [local go_sem] Oper.semAt_some

/-- words as they lie -/
def WordsAt (w : World) (a : Option Addr) (ws : List ByteArray) : Prop := ∀ i x, ws[i]? = some x → ∃ ad, a = some ad ∧ w.cell? (ad.add i) = some (.string x)
theorem WordsAt.below {w w' : World} {a : Option Addr} {ws : List ByteArray} (h : WordsAt w a ws) (hb : Below w.heap.size w w') : WordsAt w' a ws := fun i x hx => by
  obtain ⟨ad, h1, h2⟩ := h i x hx
  exact ⟨ad, h1, (Stir.of_below hb (fun _ => False)).cell h2 (fun e => e)⟩

/-- up to where the keys go -/
def keyTo (s : SpecV) (n : Nat) : Int := if s.last < 0 then s.last + n else s.last
/-- zs are the words from the first key on, each so many -/
structure KeysAre (s : SpecV) (ws zs : List ByteArray) (f st : Nat) : Prop where
  first : s.first = f
  step : s.step = st
  pos : 0 < f → 0 < st
  stle : st ≤ 2
  upto : keyTo s ws.length < ws.length
  bound : ws.length ≤ 1000000000000
  low : -1 ≤ s.last
  at_ : ∀ k x, zs[k]? = some x → 0 < f ∧ ((f + k * st : Nat) : Int) ≤ keyTo s ws.length ∧ ws[f + k * st]? = some x
  end_ : 0 < f → keyTo s ws.length < ((f + zs.length * st : Nat) : Int)

set_option maxRecDepth 100000 in
set_option maxHeartbeats 2000000 in
theorem keys1_in (n : Nat) (hn : 1 ≤ n) (l B : Nat) (T : Nat → Prop) (J Jx : List ByteArray → World → Prop) (W : World) (s : SpecV) (ws zs : List ByteArray) (f st : Nat) (hk : KeysAre s ws zs f st)
    (Bs Bw : Nat) (a : Option Addr) (c : Nat) (hs : RowAt W Bs s) (hw : Boxed W Bw 22 (.slice a ws.length c)) (hws : WordsAt W a ws) (hT : ∀ k, T k → W.heap.size ≤ k ∨ (k ≠ Bs ∧ k ≠ Bw ∧ ∀ ad, a = some ad → k ≠ ad.block))
    (hY : ∀ pre x W, J pre W → pre.length < zs.length → YieldAt Fence.wide (n - 1) Try.prog l #[.string x] W fun e W' =>
      (e = .returned (.bool true) ∧ J (pre ++ [x]) W' ∧ StirC B T W W') ∨ (e = .returned (.bool false) ∧ Jx (pre ++ [x]) W')) (h0 : J [] W) :
    CallsIn Fence.wide n Try.prog 28 #[.func (.yield l) #[] #[], .pointer (some ⟨Bs, 0, none⟩), .pointer (some ⟨Bw, 0, none⟩)] W fun e W' => (∃ v, e = .returned v) ∧
      ((∃ ys, ys = zs ∧ J ys W') ∨ (∃ pre, pre <+: zs ∧ Jx pre W')) := by
  obtain ⟨s0, s1, s2, s3, s4, s5, s6⟩ := s
  obtain ⟨rfl, rfl, hpos, hst, hto, hbd, hlow, hat, hend⟩ := hk
  dsimp only at hlow
  have c3 : W.cell? ⟨Bs, 3, none⟩ = some (.int .i64 f) := by unfold World.cell?; rw [show W.heap[Bs]? = _ from hs]; rfl
  have c4 : W.cell? ⟨Bs, 4, none⟩ = some (.int .i64 s4) := by unfold World.cell?; rw [show W.heap[Bs]? = _ from hs]; rfl
  have cw := hw.cell
  refine callsIn_of_wp Try.func28 rfl trivial ?_ rfl
  simp only [Try.ntmps28, List.size_toArray, List.length_cons, List.length_nil, Nat.reduceAdd, Nat.reduceSub, Array.replicate_succ, Array.replicate_zero, List.push_toArray, List.append_toArray, List.nil_append, List.cons_append]
  obtain ⟨TO, hTO⟩ : ∃ TO, TO = keyTo ⟨s0, s1, s2, f, s4, st, s6⟩ ws.length := ⟨_, rfl⟩
  rw [← hTO] at hto hend
  have hat' : ∀ k x, zs[k]? = some x → 0 < f ∧ ((f + k * st : Nat) : Int) ≤ TO ∧ ws[f + k * st]? = some x := by rw [hTO]; exact hat
  have HH := Lib.hid (And.intro hat' (And.intro hto (And.intro hend hbd)))
  have HS := Lib.hid hs
  have c5 : W.cell? ⟨Bs, 5, none⟩ = some (.int .i64 st) := by unfold World.cell?; rw [show W.heap[Bs]? = _ from hs]; rfl
  have tBs : ¬ T Bs := fun e => by rcases hT _ e with h | h; exact absurd (Array.getElem?_eq_some_iff.1 hs).1 (by omega); exact h.1 rfl
  have tBw : ¬ T Bw := fun e => by rcases hT _ e with h | h; exact absurd hw.lt (by omega); exact h.2.1 rfl
  have htl : (if s4 < 0 then s4 + (ws.length : Int) else s4) = TO := by rw [hTO]; rfl
  clear hTO hat hto hend hbd hs hw
  by_cases h4 : s4 < 0
  · have e64 : wrap64 (s4 + (ws.length : Int)) = TO := by rw [if_pos h4] at htl; rw [← htl]; have := HH.out.2.2.2; unfold wrap64; omega
    clear htl hlow
    gi_wp2_with fail
    rw [e64]
    gi_loopw [5] (fun i wr => ∃ k : Nat, k ≤ zs.length ∧ i = .int .i64 ((f + k * st : Nat) : Int) ∧ J (zs.take k) wr ∧ StirC B T W wr)
      (fun i _ => (TO + 1 - intOf i).toNat)
    case atStart => exact ⟨0, Nat.zero_le _, by simp, by simpa using h0, StirC.refl _ _ _⟩
    case round =>
      obtain ⟨k, hk, rfl, hJs, hnx⟩ := hrel
      obtain ⟨q, hq⟩ : ∃ q, q = f + k * st := ⟨_, rfl⟩
      have hq1 : q + st = f + (k + 1) * st := by rw [hq, Nat.succ_mul]; omega
      rw [← hq]
      by_cases hlt : k < zs.length
      · obtain ⟨x, hx⟩ : ∃ x, zs[k]? = some x := ⟨_, List.getElem?_eq_getElem hlt⟩
        obtain ⟨g1, g2, g3⟩ := HH.out.1 k x hx
        rw [← hq] at g2 g3
        obtain ⟨ad, rfl, hcx⟩ := hws q x g3
        have hqw : q < ws.length := (List.getElem?_eq_some_iff.1 g3).1
        have tad : ¬ T ad.block := fun e => by
          rcases hT _ e with h | h
          · have := World.block_lt_of_cell? W _ hcx; rw [add_block] at this; omega
          · exact h.2.2 ad rfl rfl
        have hcx := hnx.cell hcx (by rw [add_block]; exact tad)
        have d5 := hnx.cell c5 tBs
        have dw := hnx.cell cw tBw
        have p0 : (0 : Int) < (q : Int) := by have := hpos g1; omega
        have p1 : ((q : Int) < (ws.length : Int)) := by omega
        have htk : zs.take (k + 1) = zs.take k ++ [x] := by rw [List.take_add_one, hx]; rfl
        obtain ⟨fn, tmps, assign, body, hy, hR⟩ := hY _ x wr hJs (by rw [List.length_take]; omega)
        have w64' : wrap64 ((q : Int) + (st : Int)) = ((q + st : Nat) : Int) := by have := HH.out.2.2.2; unfold wrap64; omega
        have hpst := hpos g1
        have HQ := Lib.hid (And.intro hq1 (And.intro htk hpst))
        clear hq hq1 htk hx g3 hws hY hT tad g1 hpst hst
        gi_wp2
        refine hR.mono ?_
        rintro e W3 (⟨rfl, hJ3, hk3⟩ | ⟨rfl, hJx3⟩)
        · have d5 := hk3.cell d5 tBs
          gi_wp2
          rw [w64']
          go_roundw
          case rel => exact ⟨k + 1, by omega, by rw [← HQ.out.1], by rw [HQ.out.2.1]; exact hJ3, hnx.trans hk3⟩
          case measure => (have hh := HQ.out.2.2; show (TO + 1 - ((q + st : Nat) : Int)).toNat < (TO + 1 - (q : Int)).toNat; omega)
        · gi_wp2
          refine bodyPost_ret (results_none rfl _ _ _) rfl ?_
          exact ⟨⟨_, rfl⟩, .inr ⟨_, by rw [← HQ.out.2.1]; exact List.take_prefix _ _, hJx3⟩⟩
      · obtain rfl : k = zs.length := by omega
        have hfin : ¬ ((0 : Int) < (q : Int) ∧ (q : Int) ≤ TO) := by
          rintro ⟨h1, h2⟩
          rcases Nat.eq_zero_or_pos f with hf0 | hf0
          · cases zs with
            | nil => subst hf0; simp at hq; omega
            | cons z zs => have := (HH.out.1 0 z rfl).1; omega
          · have := HH.out.2.2.1 hf0; rw [← hq] at this; omega
        by_cases hp : (0 : Int) < (q : Int)
        · have hn2 : ¬ (q : Int) ≤ TO := fun h => hfin ⟨hp, h⟩
          clear hfin
          gi_wp2
          go_end0
          rw [List.take_of_length_le (Nat.le_refl _)] at hJs; first | exact ⟨⟨_, rfl⟩, .inl ⟨_, rfl, hJs⟩⟩ | exact ⟨⟨_, rfl⟩, .inl hJs⟩
        · clear hfin
          gi_wp2
          go_end0
          rw [List.take_of_length_le (Nat.le_refl _)] at hJs; first | exact ⟨⟨_, rfl⟩, .inl ⟨_, rfl, hJs⟩⟩ | exact ⟨⟨_, rfl⟩, .inl hJs⟩
  · obtain rfl : s4 = TO := by rw [if_neg h4] at htl; exact htl
    clear htl hlow
    gi_wp2_with fail
    gi_loopw [5] (fun i wr => ∃ k : Nat, k ≤ zs.length ∧ i = .int .i64 ((f + k * st : Nat) : Int) ∧ J (zs.take k) wr ∧ StirC B T W wr)
      (fun i _ => (s4 + 1 - intOf i).toNat)
    case atStart => exact ⟨0, Nat.zero_le _, by simp, by simpa using h0, StirC.refl _ _ _⟩
    case round =>
      obtain ⟨k, hk, rfl, hJs, hnx⟩ := hrel
      obtain ⟨q, hq⟩ : ∃ q, q = f + k * st := ⟨_, rfl⟩
      have hq1 : q + st = f + (k + 1) * st := by rw [hq, Nat.succ_mul]; omega
      rw [← hq]
      by_cases hlt : k < zs.length
      · obtain ⟨x, hx⟩ : ∃ x, zs[k]? = some x := ⟨_, List.getElem?_eq_getElem hlt⟩
        obtain ⟨g1, g2, g3⟩ := HH.out.1 k x hx
        rw [← hq] at g2 g3
        obtain ⟨ad, rfl, hcx⟩ := hws q x g3
        have hqw : q < ws.length := (List.getElem?_eq_some_iff.1 g3).1
        have tad : ¬ T ad.block := fun e => by
          rcases hT _ e with h | h
          · have := World.block_lt_of_cell? W _ hcx; rw [add_block] at this; omega
          · exact h.2.2 ad rfl rfl
        have hcx := hnx.cell hcx (by rw [add_block]; exact tad)
        have d5 := hnx.cell c5 tBs
        have dw := hnx.cell cw tBw
        have p0 : (0 : Int) < (q : Int) := by have := hpos g1; omega
        have p1 : ((q : Int) < (ws.length : Int)) := by omega
        have htk : zs.take (k + 1) = zs.take k ++ [x] := by rw [List.take_add_one, hx]; rfl
        obtain ⟨fn, tmps, assign, body, hy, hR⟩ := hY _ x wr hJs (by rw [List.length_take]; omega)
        have w64' : wrap64 ((q : Int) + (st : Int)) = ((q + st : Nat) : Int) := by have := HH.out.2.2.2; unfold wrap64; omega
        have hpst := hpos g1
        have HQ := Lib.hid (And.intro hq1 (And.intro htk hpst))
        clear hq hq1 htk hx g3 hws hY hT tad g1 hpst hst
        gi_wp2
        refine hR.mono ?_
        rintro e W3 (⟨rfl, hJ3, hk3⟩ | ⟨rfl, hJx3⟩)
        · have d5 := hk3.cell d5 tBs
          gi_wp2
          rw [w64']
          go_roundw
          case rel => exact ⟨k + 1, by omega, by rw [← HQ.out.1], by rw [HQ.out.2.1]; exact hJ3, hnx.trans hk3⟩
          case measure => (have hh := HQ.out.2.2; show (s4 + 1 - ((q + st : Nat) : Int)).toNat < (s4 + 1 - (q : Int)).toNat; omega)
        · gi_wp2
          refine bodyPost_ret (results_none rfl _ _ _) rfl ?_
          exact ⟨⟨_, rfl⟩, .inr ⟨_, by rw [← HQ.out.2.1]; exact List.take_prefix _ _, hJx3⟩⟩
      · obtain rfl : k = zs.length := by omega
        have hfin : ¬ ((0 : Int) < (q : Int) ∧ (q : Int) ≤ s4) := by
          rintro ⟨h1, h2⟩
          rcases Nat.eq_zero_or_pos f with hf0 | hf0
          · cases zs with
            | nil => subst hf0; simp at hq; omega
            | cons z zs => have := (HH.out.1 0 z rfl).1; omega
          · have := HH.out.2.2.1 hf0; rw [← hq] at this; omega
        by_cases hp : (0 : Int) < (q : Int)
        · have hn2 : ¬ (q : Int) ≤ s4 := fun h => hfin ⟨hp, h⟩
          clear hfin
          gi_wp2
          go_end0
          rw [List.take_of_length_le (Nat.le_refl _)] at hJs; first | exact ⟨⟨_, rfl⟩, .inl ⟨_, rfl, hJs⟩⟩ | exact ⟨⟨_, rfl⟩, .inl hJs⟩
        · clear hfin
          gi_wp2
          go_end0
          rw [List.take_of_length_le (Nat.le_refl _)] at hJs; first | exact ⟨⟨_, rfl⟩, .inl ⟨_, rfl, hJs⟩⟩ | exact ⟨⟨_, rfl⟩, .inl hJs⟩

end Go.Proofs.Ytjdpmjpfhcdcfaa
