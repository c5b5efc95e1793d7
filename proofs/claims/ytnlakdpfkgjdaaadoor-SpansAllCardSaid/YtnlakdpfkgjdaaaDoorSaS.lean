import Derived.Test.YtnlakdpfkgjdaaaDoorPSp
import Derived.Test.YtnlakdpfkgjdaaaDoorCavA
import Derived.Test.YtnlakdpfkgjdaaaDoorShelf
/- spans.said: what the loop gathers. Condition: a bound on the list's length. -/
namespace Go.Proofs.YtnlakdpfkgjdaaaDoor.G
open Go.RowKit Go.Cav Go.Proofs.YtnlakdpfkgjdaaaDoorW.PrintWords Go.Proofs.YtnlakdpfkgjdaaaDoorW.PrintLast Go.Proofs.YtnlakdpfkgjdaaaDoorW.PrintMore
attribute [local go_sem] Oper.semAt_some
attribute [local go_sem] max2_int min2_int max_two min_two
theorem cutS_snoc (l : List S31) (s : S31) : cutS (l ++ [s]) = if okS s = true then cutS l ++ [clipS s] else cutS l := by
  unfold cutS
  rw [List.filter_append, List.map_append]
  by_cases h : okS s = true
  · rw [if_pos h, List.filter_cons_of_pos h]; rfl
  · rw [if_neg h, List.filter_cons_of_neg h]; simp
theorem cutS_len (l : List S31) : (cutS l).length ≤ l.length := by
  unfold cutS; rw [List.length_map]; exact List.length_filter_le _ _
set_option maxRecDepth 100000 in
set_option maxHeartbeats 4000000 in
theorem said_calls (A0 : Option Addr) (c0 : Nat) (l0 : List S31) (w : World) (hr0 : Kd.C k31 w A0 l0.length l0) (h0 : l0.length ≤ 1000000000) (srt : List S31 → List S31)
    (hsort : ∀ (v : Value) (xs : List S31) (w1 : World), xs.length ≤ 1000000000 → Below w.heap.size w w1 → Kd.R k31 31 w1 w.heap.size (fun _ => True) v xs →
      Calls Tryd.prog 46 #[v, .func (.func 47) #[] #[]] w1 fun e w' => e = .returned (.tuple #[]) ∧ Kd.V k31 31 w' w.heap.size (fun k_ => w.heap.size ≤ k_) v (srt xs) ∧ Below w.heap.size w w') :
    Calls Tryd.prog 32 #[.slice A0 l0.length c0] w fun e w' => ∃ v0_ : Value, e = .returned (v0_) ∧ Kd.V k31 31 w' w.heap.size (fun k_ => (w.heap.size ≤ k_)) v0_ (srt (cutS l0)) ∧ Below w.heap.size w w' := by
  have HR0 := Lib.hid hr0
  have HS := Lib.hid hsort
  clear hr0 hsort
  go_enter Tryd.func32, Tryd.ntmps32
  go_wp2
  go_loopw [3, 8] (fun o i wr => ∃ (j : Nat), j ≤ l0.length ∧ i = .int .i64 (j : Int) ∧ Hid (Kd.R k31 31 wr w.heap.size (fun _ => True) o (cutS (l0.take j))) ∧ Hid (Below w.heap.size w wr)) (fun _ i _ => l0.length - (intOf i).toNat)
  case atStart => exact ⟨0, by omega, rfl, Lib.hid (Kd.R_nil _ _ _ _ _), Lib.hid (Below.refl _ _)⟩
  case round =>
    obtain ⟨j, hj, rfl, HO, HB⟩ := hrel
    by_cases hlt : j < l0.length
    · obtain ⟨ad, rfl, e0, e1⟩ := at_T31 HR0.out (j : Int) (by omega) (by omega)
      rw [Int.toNat_natCast] at e0 e1
      have hx : rd_T31 l0 (j : Int) = l0[j] := by unfold rd_T31; simp [hlt]
      rw [hx] at e0 e1
      replace e0 := (Stir.of_below HB.out (fun _ => False)).cell e0 (fun e => e)
      replace e1 := (Stir.of_below HB.out (fun _ => False)).cell e1 (fun e => e)
      have hc : cutS (l0.take (j + 1)) = if okS l0[j] = true then cutS (l0.take j) ++ [clipS l0[j]] else cutS (l0.take j) := by
        rw [List.take_succ_eq_append_getElem hlt, cutS_snoc]
      have HC := Lib.hid hc
      have hltz : (j : Int) < (l0.length : Int) := by omega
      clear hc hx
      generalize l0[j] = s at e0 e1 HC
      obtain ⟨s0, s1⟩ := s
      have hcl : ∃ a0 a1, (if s0 < 0 then (0 : Int) else s0) = a0 ∧ (if 16383 < s1 then (16383 : Int) else s1) = a1 ∧ clipS ⟨s0, s1⟩ = ⟨a0, a1⟩ := by
        refine ⟨_, _, rfl, rfl, ?_⟩
        unfold clipS
        congr 1
        · show max s0 0 = _
          split <;> omega
        · show min s1 16383 = _
          split <;> omega
      obtain ⟨a0, a1, ha0, ha1, hcl⟩ := hcl
      have hok : okS ⟨s0, s1⟩ = decide (a0 ≤ a1) := by unfold okS; rw [hcl]
      rw [hok, hcl] at HC
      dsimp only at e0 e1
      clear hcl hok
      by_cases hle : a0 ≤ a1
      · have hd : decide (a0 ≤ a1) = true := decide_eq_true hle
        rw [if_pos hd] at HC
        have HN := Lib.hid (cutS_len (l0.take j))
        have hb1 : Below w.heap.size w (wr.alloc (.cells #[.int .i64 a0, .int .i64 a1] 31)) := HB.out.alloc HB.out.size _
        have hbk : (wr.alloc (.cells #[.int .i64 a0, .int .i64 a1] 31)).heap[wr.heap.size]? = some (.cells #[.int .i64 a0, .int .i64 a1] 31 (0, 0)) := heap_alloc_new wr _
        have hR1 := Kd.R_alloc HO.out (.cells #[.int .i64 a0, .int .i64 a1] 31)
        have HB1 := Lib.hid hb1
        have HBK := Lib.hid hbk
        have HR1 := Lib.hid hR1
        clear hb1 hbk hR1
        go_upto_region 7 with fail
        clear e0 e1
        generalize wr.alloc (.cells #[.int .i64 a0, .int .i64 a1] 31) = wq at HB1 HBK HR1 ⊢
        have c0 : wq.cell? ⟨wr.heap.size, 0, none⟩ = some (.int .i64 a0) := (cell_of_row wq _ 0 _ _ _ HBK.out).trans rfl
        have c1 : wq.cell? ⟨wr.heap.size, 1, none⟩ = some (.int .i64 a1) := (cell_of_row wq _ 1 _ _ _ HBK.out).trans rfl
        go_wp2_with (at_builtin; go_loud (refine Kd.R_append k31 (w0 := w) w.heap.size rfl (.tmp 24) (.tmp 26) 23 31 (.agg #[(.int .i64 0), (.int .i64 0)]) 16 rfl Tryd.underlying23 info31 rfl (by decide) (by omega) _ (cutS (l0.take j)) (⟨a0, a1⟩ : S31) [.int .i64 a0, .int .i64 a1] (fun _ => True) (fun _ => False) rfl rfl (k31_mkM _ _ _ (⟨a0, a1⟩ : S31)) (fun _ hk => hk.elim) (fun _ _ => trivial) HR1.out HB1.out HB1.out.size ?aL ?_; (case aL => have := HN.out; rw [List.length_take] at this; omega)))
        intro v1 w1 hR hB _ _
        have hR2 := Lib.hid hR
        have hB2 := Lib.hid hB
        clear hR hB
        go_wp2
        exact ⟨⟨j + 1, by omega, by simp, Lib.hid (by rw [HC.out]; exact hR2.out), Lib.hid hB2.out⟩, by simp [intOf]; omega⟩
      · have hd : ¬ decide (a0 ≤ a1) = true := by simpa using hle
        rw [if_neg hd] at HC
        have hb1 : Below w.heap.size w (wr.alloc (.cells #[.int .i64 a0, .int .i64 a1] 31)) := HB.out.alloc HB.out.size _
        have hR1 := Kd.R_alloc HO.out (.cells #[.int .i64 a0, .int .i64 a1] 31)
        have HB1 := Lib.hid hb1
        have HR1 := Lib.hid hR1
        have hle2 : a1 < a0 := by omega
        clear hb1 hR1 hd hle
        go_wp2
        exact ⟨⟨j + 1, by omega, by simp, Lib.hid (by rw [HC.out]; exact HR1.out), Lib.hid HB1.out⟩, by simp [intOf]; omega⟩
    · have hltz : ¬ (j : Int) < (l0.length : Int) := by omega
      obtain rfl : j = l0.length := by omega
      have hO := HO.out
      rw [List.take_length] at hO
      have hS := HS.out _ _ wr (Nat.le_trans (cutS_len l0) h0) HB.out hO
      clear hO HO
      go_wp2_with fail
      refine hS.mono ?_
      rintro e w2 ⟨rfl, hV, hB2⟩
      have HV := Lib.hid hV
      have HB2 := Lib.hid hB2
      clear hV hB2 HS
      go_wp2
      go_ret
      exact ⟨_, rfl, HV.out, HB2.out⟩
end Go.Proofs.YtnlakdpfkgjdaaaDoor.G

/- slices.SortFunc over rows of spans by their beginnings. Condition: a bound on the row's length. -/
namespace Go.Proofs.YtnlakdpfkgjdaaaDoor.G
open Go.RowKit Go.Cav Go.Sort Go.Proofs.YtnlakdpfkgjdaaaDoorW.PrintWords Go.Proofs.YtnlakdpfkgjdaaaDoorW.PrintLast Go.Proofs.YtnlakdpfkgjdaaaDoorW.PrintMore
attribute [local go_sem] Oper.semAt_some
instance : Inhabited S31 := ⟨z31⟩
def encSp (s : S31) : List Value := [.int .i64 s.f0, .int .i64 s.f1]
def cfSp (x y : S31) : Int := Lib.compareInt x.f0 y.f0
theorem lt_cf (x y : S31) : ltOf cfSp x y = decide (x.f0 < y.f0) := by
  unfold ltOf cfSp Lib.compareInt
  by_cases h : x.f0 < y.f0
  · rw [if_pos h, decide_eq_true h]; rfl
  · rw [if_neg h, decide_eq_false h]; split <;> rfl
theorem swo_cf : SWO (ltOf cfSp) where
  irrefl x := by rw [lt_cf]; simp
  trans x y z h1 h2 := by rw [lt_cf] at *; simp at *; omega
  ntrans x y z h1 h2 := by rw [lt_cf] at *; simp at *; omega
/-- what the library's sort leaves of a row -/
def pdqS (l : List S31) : List S31 := (pdq (ltOf cfSp) l.toArray 0 l.toArray.size (Lib.bitLen l.toArray.size) true true).toList
theorem pdqS_spec (l : List S31) : (pdqS l).length = l.length ∧ (∀ x, x ∈ pdqS l ↔ x ∈ l) ∧ risingS (pdqS l) := by
  have h := pdq_sorts (ltOf cfSp) swo_cf l.toArray 0 l.toArray.size (Lib.bitLen l.toArray.size) true true (Nat.zero_le _) (Nat.le_refl _) (Or.inl rfl)
  obtain ⟨⟨hs, _, hp⟩, hso⟩ := h
  have hd : ∃ d, d = pdq (ltOf cfSp) l.toArray 0 l.toArray.size (Lib.bitLen l.toArray.size) true true := ⟨_, rfl⟩
  obtain ⟨d, hd⟩ := hd
  have he : pdqS l = d.toList := by rw [hd]; rfl
  rw [← hd] at hs hp hso
  rw [he]
  have hsl : d.size = l.length := by rw [hs]; simp
  have e1 : d.extract 0 l.toArray.size = d := by rw [← hs]; simp
  have e2 : l.toArray.extract 0 l.toArray.size = l.toArray := by simp
  rw [e1, e2] at hp
  refine ⟨by rw [Array.length_toList, hsl], fun x => hp.mem_iff, ?_⟩
  have key : ∀ (m : List S31), (∀ i j, i < j → j < m.length → ∀ x y, m[i]? = some x → m[j]? = some y → x.f0 ≤ y.f0) → risingS m := by
    intro m
    induction m with
    | nil => intro _; trivial
    | cons a m ih =>
      intro hm
      cases m with
      | nil => trivial
      | cons b m =>
        refine ⟨hm 0 1 (by omega) (by simp) a b rfl rfl, ih fun i j hij hj x y hx hy => hm (i + 1) (j + 1) (by omega) (by simp at hj ⊢; omega) x y (by simpa using hx) (by simpa using hy)⟩
  refine key _ fun i j hij hj x y hx hy => ?_
  rw [Array.length_toList] at hj
  have h2 := hso i j (Nat.zero_le _) hij (by rw [← hs]; exact hj)
  rw [lt_cf] at h2
  have ex : d[i]! = x := by
    rw [Array.getElem?_toList] at hx
    rw [getElem!_def, hx]
  have ey : d[j]! = y := by
    rw [Array.getElem?_toList] at hy
    rw [getElem!_def, hy]
  rw [ex, ey] at h2
  simp at h2
  exact h2
theorem alloc2_grow (w : World) (a b : Obj) : (w.alloc a).alloc b = grow (w.drewN 0) #[a, b] := by
  have e : (w.heap.push a).push b = w.heap ++ #[a, b] := by apply Array.ext'; simp
  show ({ w with heap := (w.heap.push a).push b } : World) = { w with heap := w.heap ++ #[a, b] }
  rw [e]
set_option maxRecDepth 100000 in
set_option maxHeartbeats 4000000 in
theorem cmp_calls (x y : S31) (w : World) : Calls Tryd.prog 47 #[.agg (encSp x).toArray, .agg (encSp y).toArray] w fun e w' => e = .returned (.int .i64 (cfSp x y)) ∧ ∃ q os', w' = grow (w.drewN q) os' := by
  obtain ⟨x0, x1⟩ := x
  obtain ⟨y0, y1⟩ := y
  have hc := fun w => Tryd.cmp_Compare_int x0 y0 w
  show Calls _ _ #[.agg #[.int .i64 x0, .int .i64 x1], .agg #[.int .i64 y0, .int .i64 y1]] w fun e w' => e = .returned (.int .i64 (Lib.compareInt x0 y0)) ∧ _
  generalize Lib.compareInt x0 y0 = z at hc
  have HC := Lib.hid hc
  clear hc
  go_enter Tryd.func47, Tryd.ntmps47
  go_wp2_with (go_at_call 48; refine (HC.out _).mono ?_; rintro e w1 ⟨rfl, rfl⟩)
  go_ret
  refine ⟨rfl, 0, #[.cells #[.int .i64 x0, .int .i64 x1] 31, .cells #[.int .i64 y0, .int .i64 y1] 31], ?_⟩
  exact alloc2_grow w _ _
theorem holds_R {w : World} {base g cap : Nat} {ok : Nat → Prop} {xs : List S31} (h : Kd.R k31 31 w base ok (.slice (some ⟨g, 0, none⟩) xs.length cap) xs) : HoldsK encSp 2 w g 0 xs.toArray := by
  have hC := (Kd.R_reads' h).2.2
  have hfr : ∀ i, w.frozen? ⟨g, i, none⟩ = false := fun i => by
    obtain ⟨_, inner, ho, _⟩ := h
    rcases ho.2 with ⟨e1, _⟩ | ⟨g', cap', cur, e1, hb, hg, rest⟩
    · cases e1
    · cases e1
      unfold World.frozen?; rw [show w.heap[(⟨g, i, none⟩ : Addr).block]? = _ from hg]; simp
  intro t ht
  rw [size_flatK] at ht
  refine ⟨?_, hfr _⟩
  rw [get_flatK _ _ _ _ ht]
  have hsz : xs.toArray.size = xs.length := by simp
  have hi : t / 2 < xs.length := by omega
  obtain ⟨ad, e, e0, e1⟩ := at_T31 hC ((t / 2 : Nat) : Int) (by omega) (by omega)
  cases e
  rw [Int.toNat_natCast] at e0 e1
  have hx : rd_T31 xs ((t / 2 : Nat) : Int) = xs.toArray[t / 2]! := by
    unfold rd_T31
    rw [Int.toNat_natCast, getElem!_pos _ _ (by rw [hsz]; exact hi)]
    simp [hi]
  rw [hx] at e0 e1
  generalize xs.toArray[t / 2]! = x at e0 e1
  have ha : (⟨g, 0, none⟩ : Addr).add (t / 2 * 2) = ⟨g, t / 2 * 2, none⟩ := by unfold Addr.add; split <;> simp_all
  rw [ha] at e0 e1
  rw [Nat.zero_add]
  by_cases hm : t % 2 = 0
  · have et : t / 2 * 2 = t := by omega
    rw [et] at e0
    rw [hm]; exact e0
  · have hm1 : t % 2 = 1 := by omega
    have et : t / 2 * 2 + 1 = t := by omega
    simp only at e1
    rw [et] at e1
    rw [hm1]; exact e1
theorem C_holds {w : World} {g : Nat} {xs : List S31} (hn : xs.length ≤ 9223372036854775807) (h : HoldsK encSp 2 w g 0 xs.toArray) : Kd.C k31 w (some ⟨g, 0, none⟩) xs.length xs := by
  refine ⟨rfl, hn, fun _ => ⟨_, rfl, fun j p hj => ?_⟩⟩
  obtain ⟨hj2, rfl⟩ := List.getElem?_eq_some_iff.1 hj
  refine ⟨[.int .i64 xs[j].f0, .int .i64 xs[j].f1], rfl, k31_mk w xs[j], fun i u hu => ?_⟩
  have hsz : xs.toArray.size = xs.length := by simp
  have ex : xs.toArray[j]! = xs[j] := by rw [getElem!_pos _ _ (by rw [hsz]; exact hj2)]; simp
  have ha : (⟨g, 0, none⟩ : Addr).add (j * (k31).sz + i) = ⟨g, j * 2 + i, none⟩ := by
    show (⟨g, 0, none⟩ : Addr).add (j * 2 + i) = _
    unfold Addr.add; split <;> simp_all
  rw [ha]
  match i, hu with
  | 0, hu =>
    cases hu
    have := (h.cell (i := j) (c := 0) (by rw [hsz]; exact hj2) (by decide)).1
    rw [ex] at this
    simpa [encSp] using this
  | 1, hu =>
    cases hu
    have := (h.cell (i := j) (c := 1) (by rw [hsz]; exact hj2) (by decide)).1
    rw [ex] at this
    simpa [encSp] using this
  | i + 2, hu => simp at hu
theorem aggS (w : World) : (isAgg 31).run Tryd.prog w = .ok true w := Tryd.isAgg31 w
theorem sizS (w : World) : (Go.sizeOf 31).run Tryd.prog w = .ok 2 w := Tryd.sizeOf31 w
set_option maxRecDepth 100000 in
set_option maxHeartbeats 4000000 in
theorem sort_none (c : Nat) (A : Option Addr) (w : World) : Calls Tryd.prog 46 #[.slice A 0 c, .func (.func 47) #[] #[]] w fun e w' => e = .returned (.tuple #[]) ∧ w' = w := by
  have hb := fun w => Tryd.bits_Len 0 w (by decide) (by decide)
  have hi : ∀ w, Calls Tryd.prog 82 #[.slice A 0 c, .int .i64 0, .int .i64 0, .func (.func 47) #[] #[]] w fun e w' => e = .returned (.tuple #[]) ∧ w' = w := fun w => by
    go_enter Tryd.func82, Tryd.ntmps82
    go_wp2
    refine wp_loop_rounds 1 ?_
    rw [rounds_succ]
    go_wp2
    go_end0
    exact ⟨rfl, rfl⟩
  have hp : ∀ lim w, Calls Tryd.prog 68 #[.slice A 0 c, .int .i64 0, .int .i64 0, .int .i64 lim, .func (.func 47) #[] #[]] w fun e w' => e = .returned (.tuple #[]) ∧ w' = w := fun lim w => by
    go_enter Tryd.func68, Tryd.ntmps68
    go_wp2
    refine wp_loop_rounds 1 ?_
    rw [rounds_succ]
    go_wp2_with (go_at_call 82; refine (hi _).mono ?_; rintro e w' ⟨rfl, rfl⟩)
    (try simp only [Exit.inBlock, Exit.then])
    refine bodyPost_ret (results_none rfl _ _ _) rfl ?_
    exact ⟨rfl, rfl⟩
  go_enter Tryd.func46, Tryd.ntmps46
  go_wp2_with (first | (go_at_call 69; refine (hb _).mono ?_; rintro e w' ⟨rfl, rfl⟩) | (go_at_call 68; refine (hp _ _).mono ?_; rintro e w' ⟨rfl, rfl⟩))
  go_end0
  exact ⟨rfl, rfl⟩
theorem stir_putRow_ {α : Type} [Inhabited α] (enc : α → Value) (w : World) (n blk off : Nat) (d : Array α) : Stir (fun k => k = blk) w (putRow enc (Sort.ahead w n) blk off d) :=
  ⟨rfl, rfl, rfl, by simp, fun k _ hn => by
    have hn' : ¬ blk = k := fun e => hn e.symm
    simp [putRow, mapBlock, Array.getElem?_modify, hn', Sort.ahead]⟩
theorem stir_grow_ {S : Nat → Prop} {w w1 : World} (h : Stir S w w1) (os : Array Obj) : Stir S w (grow w1 os) :=
  ⟨h.os, h.tape, h.output, by have := h.size; simp; omega, fun k hk hn => (heap_grow_old w1 os (Nat.lt_of_lt_of_le hk h.size)).trans (h.block k hk hn)⟩
set_option maxRecDepth 100000 in
/-- the library's sort of a row of one's own: what it leaves is read -/
theorem sort_any (v : Value) (xs : List S31) (w : World) (base : Nat) (hn : xs.length ≤ 1000000000) (hb : base ≤ w.heap.size) (h : Kd.R k31 31 w base (fun _ => True) v xs) :
    Calls Tryd.prog 46 #[v, .func (.func 47) #[] #[]] w fun e w' => e = .returned (.tuple #[]) ∧ Kd.V k31 31 w' base (fun k_ => base ≤ k_) v (pdqS xs) ∧ Below base w w' := by
  obtain ⟨A, c, rfl⟩ := Kd.R_slice h
  have hsp := pdqS_spec xs
  have hown := h
  obtain ⟨_, inner, ho, _⟩ := hown
  rcases ho.2 with ⟨e1, e2⟩ | ⟨g, cap, cur, e1, hbg, hg, hcap, _⟩
  · obtain rfl : xs = [] := List.eq_nil_of_length_eq_zero e2
    have he : pdqS [] = [] := List.eq_nil_of_length_eq_zero hsp.1
    rw [he]
    cases e1
    refine (sort_none 0 none w).mono ?_
    rintro e w' ⟨rfl, rfl⟩
    exact ⟨rfl, Kd.V_nil _ _ _ _ _, Below.refl _ _⟩
  · cases e1
    have hgl : g < w.heap.size := (Array.getElem?_eq_some_iff.1 hg).1
    have hH := holds_R h
    have hs := Tryd.slices_SortFunc_eq 2 aggS sizS encSp (fun _ => rfl) (fun x v hv => by
      simp only [encSp, List.mem_cons, List.mem_nil_iff, or_false] at hv
      rcases hv with rfl | rfl <;> rfl) cfSp swo_cf 47 #[] g 0 c xs.toArray w (enters_of Tryd.func47 (by kernel_rfl) rfl)
      (fun m os dk _ x y => cmp_calls x y _) hH hgl (by simp; omega)
    rw [show xs.toArray.size = xs.length by simp] at hs
    refine hs.mono ?_
    rintro e w' ⟨rfl, n, os, rfl⟩
    have hlen := hsp.1
    have hP : pdq (ltOf cfSp) xs.toArray 0 xs.length (Lib.bitLen xs.length) true true = (pdqS xs).toArray := by
      unfold pdqS; simp
    rw [hP]
    have hH2 : HoldsK encSp 2 (sortWorldK encSp 2 w g 0 n (pdqS xs).toArray os) g 0 (pdqS xs).toArray := by
      unfold sortWorldK
      have h2 := holdsK_putRowK encSp 2 (Sort.ahead w n) g 0 xs.toArray (pdqS xs).toArray (holdsK_ahead encSp 2 w n g 0 _ hH) (by simp [hlen])
      exact holdsK_grow encSp 2 _ os g 0 _ (by
        show g < (putRowK encSp 2 (Sort.ahead w n) g 0 (pdqS xs).toArray).heap.size
        unfold putRowK putRow mapBlock
        simpa [Sort.ahead] using hgl) h2
    have hst : Stir (fun k => k = g) w (sortWorldK encSp 2 w g 0 n (pdqS xs).toArray os) := by
      unfold sortWorldK putRowK
      exact stir_grow_ (stir_putRow_ id w n g 0 _) os
    refine ⟨rfl, ⟨some ⟨g, 0, none⟩, c, by rw [hlen], by rw [hlen]; exact (Kd.R_reads' h).2.1, ?_⟩, hst.below hb (fun k hk => by rw [hk]; exact hbg)⟩
    intro W2 hW2
    have hC := C_holds (xs := pdqS xs) (by omega) hH2
    have hgw : g < (sortWorldK encSp 2 w g 0 n (pdqS xs).toArray os).heap.size := Nat.lt_of_lt_of_le hgl hst.size
    have e := hW2 g hbg hgw
    obtain ⟨h1, h2, h3⟩ := hC
    refine ⟨h1, h2, fun hp => ?_⟩
    obtain ⟨ad, e3, h4⟩ := h3 hp
    cases e3
    refine ⟨_, rfl, fun j p hj => ?_⟩
    obtain ⟨cs, c1, c2, c3⟩ := h4 j p hj
    refine ⟨cs, c1, ?_, fun i u hu => ?_⟩
    · have := k31_open c2
      rw [this]; exact k31_mk W2 p
    · have hblk : ((⟨g, 0, none⟩ : Addr).add (j * (k31).sz + i)).block = g := by unfold Addr.add; split <;> rfl
      exact (World.cell?_of_block (show W2.heap[((⟨g, 0, none⟩ : Addr).add (j * (k31).sz + i)).block]? = _ by rw [hblk]; exact e)).trans (c3 i u hu)
end Go.Proofs.YtnlakdpfkgjdaaaDoor.G
