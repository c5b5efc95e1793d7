/- spans.Read: what it tells of a text. Condition: a bound on the text's length. -/
import Derived.Test.YtnlakdpfkgjdaaaDoorSq
import Derived.Test.YtnlakdpfkgjdaaaDoorPMy
import Derived.Test.YtnlakdpfkgjdaaaDoorCavF
import Derived.Test.YtnlakdpfkgjdaaaDoorSaS
namespace Go.Proofs.YtnlakdpfkgjdaaaDoor.G
open Go.RowKit Go.Shelf Go.Cav Go.Proofs.YtnlakdpfkgjdaaaDoorW.PrintWords Go.Proofs.YtnlakdpfkgjdaaaDoorW.PrintLast Go.Proofs.YtnlakdpfkgjdaaaDoorW.PrintMore
attribute [local go_sem] Oper.semAt_some
/-- is a text a number for Atoi? -/
def atoiO (s : ByteArray) : Bool := match Lib.atoiAll s.data.toList with | .ok _ => true | _ => false
theorem atoi_err (s : ByteArray) (hs : s.size ≤ 281474976710656) (w : World) (hW : Wd w) :
    Calls Tryd.prog 31 #[.string s] w fun e w' => ∃ ev, e = .returned (.tuple #[.int .i64 (atoiV s), ev]) ∧ (atoiO s = true → ev = .nilIface) ∧ (atoiO s = false → ∃ te pe, ev = .iface te pe) ∧ Below w.heap.size w w' := by
  obtain ⟨ev0, hv0, he0⟩ := hW.syn
  obtain ⟨ev1, hv1, he1⟩ := hW.rng
  unfold atoiV atoiO
  cases hc : Lib.atoiAll s.data.toList with
  | «syntax» =>
    refine (Tryd.strconv_Atoi_syntax s hs hc ev0 w hv0 he0).mono ?_
    rintro e w1 ⟨N, rfl, -, -, hb⟩
    exact ⟨_, rfl, fun h => by simp at h, fun _ => ⟨_, _, rfl⟩, hb⟩
  | range =>
    refine (Tryd.strconv_Atoi_range s hs hc ev1 w hv1 he1).mono ?_
    rintro e w1 ⟨N, rfl, -, -, hb⟩
    exact ⟨_, rfl, fun h => by simp at h, fun _ => ⟨_, _, rfl⟩, hb⟩
  | ok v =>
    refine (Tryd.strconv_Atoi_ok s (by omega) v hc w).mono ?_
    rintro e w1 ⟨rfl, hb⟩
    exact ⟨_, rfl, fun _ => rfl, fun h => by simp at h, atoi_ok_below hb⟩
def cut1 (x : ByteArray) : ByteArray := ⟨(Lib.cut x.data.toList [45]).1.toArray⟩
def cut2 (x : ByteArray) : ByteArray := ⟨(Lib.cut x.data.toList [45]).2.1.toArray⟩
def cutH (x : ByteArray) : Bool := (Lib.cut x.data.toList [45]).2.2
theorem cut_sizes (x : ByteArray) : (cut1 x).size ≤ x.size ∧ (cut2 x).size ≤ x.size := by
  unfold cut1 cut2 Lib.cut
  have e : ∀ l : List UInt8, (ByteArray.mk l.toArray).size = l.length := fun l => rfl
  have h : x.data.toList.length = x.size := by rw [Array.length_toList]; rfl
  split
  · exact ⟨by rw [← h]; exact Nat.le_trans (Nat.le_of_eq (List.length_take)) (Nat.min_le_right _ _), by rw [← h]; exact Nat.le_trans (Nat.le_of_eq (List.length_drop)) (Nat.sub_le _ _)⟩
  · exact ⟨by rw [← h]; exact Nat.le_refl _, Nat.zero_le _⟩
/-- the span that a piece tells -/
def oneP (x : ByteArray) : Option S31 :=
  if atoiO (cut1 x) = true ∧ (cutH x = true → atoiO (cut2 x) = true) then some ⟨atoiV (cut1 x), if cutH x then atoiV (cut2 x) else atoiV (cut1 x)⟩ else none
/-- the spans of the pieces up to the first that tells none -/
def readL : List ByteArray → List S31
  | [] => []
  | x :: r => match oneP x with | some s => s :: readL r | none => []
/-- do all tell one? -/
def okL (l : List ByteArray) : Prop := ∀ x ∈ l, (oneP x).isSome = true
theorem readL_app : ∀ {l : List ByteArray} (m : List ByteArray), okL l → readL (l ++ m) = readL l ++ readL m
  | [], m, _ => rfl
  | x :: l, m, h => by
    have hx := h x (by simp)
    rw [List.cons_append, readL, readL]
    cases ho : oneP x with
    | none => rw [ho] at hx; simp at hx
    | some s => simp only; rw [readL_app m (fun y hy => h y (by simp [hy]))]; rfl
theorem readL_len : ∀ l : List ByteArray, (readL l).length ≤ l.length
  | [] => by simp [readL]
  | x :: l => by
    have := readL_len l
    rw [readL]
    split
    · simp; exact this
    · simp
def readP (s : ByteArray) : List S31 × Bool := if mayB (readL (cutB s)) = true ∧ textS (readL (cutB s)) = s then (readL (cutB s), true) else ([], false)
theorem R_cells {w : World} {base : Nat} {v : Value} {l : List S31} (h : w.ownsRow base 31 2 v l.length (l.flatMap encSp)) : Kd.R k31 31 w base (fun _ => True) v l := by
  refine ⟨fun _ _ => trivial, l.flatMap encSp, h, ?_⟩
  have key : ∀ l : List S31, Reps (k31.M w base (fun k => True ∧ some k ≠ v.ownBlock)) 2 l (l.flatMap encSp) := by
    intro l
    induction l with
    | nil => exact Reps.none _ _
    | cons a l ih =>
      refine ⟨by rw [List.flatMap_cons, List.length_append, ih.1, List.length_cons]; show 2 + _ = _; omega, fun j p hj => ?_⟩
      cases j with
      | zero =>
        obtain rfl : a = p := by simpa using hj
        show k31.M w base _ a ((((encSp a) ++ l.flatMap encSp).drop (0 * 2)).take 2)
        exact k31_mkM _ _ _ a
      | succ j =>
        have := ih.2 j p (by simpa using hj)
        rw [List.flatMap_cons, show (j + 1) * 2 = (encSp a).length + j * 2 by show _ = 2 + _; omega, ← List.drop_drop, List.drop_left]
        exact this
  exact key l
theorem KeepsOthers.of_below {W W' : World} (h : Below W.heap.size W W') : KeepsOthers W W' :=
  ⟨h.size, fun k _ hk _ => (h.block k (lt_of_heap hk)).trans hk⟩
theorem info31_parts : ∃ i, Tryd.prog.info? 31 = some i ∧ i.zero = some (.agg #[.int .i64 0, .int .i64 0]) ∧ i.size = 2 ∧ i.bytes = 16 := by
  have h : (Tryd.prog.info? 31).map (fun i => (i.zero, i.size, i.bytes)) = some (some (.agg #[.int .i64 0, .int .i64 0]), 2, 16) := by kernel_rfl
  cases ho : Tryd.prog.info? 31 with
  | none => rw [ho] at h; cases h
  | some i => rw [ho] at h; simp only [Option.map_some, Option.some.injEq, Prod.mk.injEq] at h; exact ⟨i, rfl, h.1, h.2.1, h.2.2⟩

set_option maxRecDepth 100000 in
set_option maxHeartbeats 4000000 in
theorem read_any (s : ByteArray) (hs : s.size ≤ 1000000) (w : World) (hW : Wd w) :
    Calls Tryd.prog 10 #[.string s] w fun e w' => ∃ v, e = .returned (.tuple #[v, .bool (readP s).2]) ∧ Kd.R k31 31 w' w.heap.size (fun _ => True) v (readP s).1 ∧ Below w.heap.size w w' := by
  obtain ⟨i0, hi, hz0, hz1, hz2⟩ := info31_parts
  obtain ⟨m, hm⟩ := hW.most
  have hgl := World.block_lt_of_cell? w _ hm
  dsimp only at hgl
  refine (callsIn_wide (n := 6)).1 ?_
  have h1 : 1 ≤ 6 := by omega
  refine callsIn_of_wp_marks Tryd.func10 rfl trivial ?_ rfl
  simp only [Tryd.ntmps10, List.size_toArray, List.length_cons, List.length_nil, Nat.reduceAdd, Nat.reduceSub, Array.replicate_succ, Array.replicate_zero, List.push_toArray, List.append_toArray, List.nil_append, List.cons_append]
  have bO := Boxed.new w 23 (.slice none 0 0)
  have hsp := fun W => split_any s W
  gi_wp2_with fail
  refine ⟨trivial, (callsIn_wide.2 (hsp _)).mono ?_⟩
  rintro e w1 ⟨rfl, hw1⟩
  clear hsp
  have hsz1 : w1.heap.size = w.heap.size + 4 := by rw [hw1]; simp
  have hb1 : Below w.heap.size w w1 := by rw [hw1]; exact ((((Below.refl _ w).alloc (Nat.le_refl _) _).alloc (by simp) _).alloc (by simp; omega) _).alloc (by simp; omega) _
  have bO1 : Boxed w1 w.heap.size 23 (.slice none 0 0) := by rw [hw1]; exact ((bO.alloc _).alloc _).alloc _
  have bS1 : Boxed w1 (w.heap.size + 1) 9 (.string s) := by
    rw [hw1]
    have := Boxed.new (w.alloc (.cells #[.slice none 0 0] 23)) 9 (.string s)
    rw [World.size_alloc] at this; exact (this.alloc _).alloc _
  have bP1 : Boxed w1 (w.heap.size + 1 + 1) 9 (.string ⟨#[44]⟩) := by
    rw [hw1]
    have := Boxed.new ((w.alloc (.cells #[.slice none 0 0] 23)).alloc (.cells #[.string s] 9)) 9 (.string ⟨#[44]⟩)
    rw [World.size_alloc, World.size_alloc] at this; exact this.alloc _
  have bZ1 : Boxed w1 (w.heap.size + 1 + 1 + 1) 3 (.int .i64 0) := by
    rw [hw1]
    have := Boxed.new (((w.alloc (.cells #[.slice none 0 0] 23)).alloc (.cells #[.string s] 9)).alloc (.cells #[.string ⟨#[44]⟩] 9)) 3 (.int .i64 0)
    rw [World.size_alloc, World.size_alloc, World.size_alloc] at this; exact this
  clear hw1 bO
  obtain ⟨T, hT⟩ : ∃ T : Nat → Prop, T = (fun k => k = w.heap.size ∨ w.heap.size + 4 ≤ k) := ⟨_, rfl⟩
  obtain ⟨T2, hT2⟩ : ∃ T2 : Nat → Prop, T2 = (fun k => w.heap.size ≤ k) := ⟨_, rfl⟩
  have hTT : ∀ k, T k → T2 k := by rw [hT, hT2]; intro k hk; omega
  have hm1 : w1.cell? ⟨0, 0, none⟩ = some (.int .i64 m) := (Stir.of_below hb1 (fun _ => False)).cell hm (fun e => e)
  have hseq := commas_seq T (w.heap.size + 1 + 1) (w.heap.size + 1) (w.heap.size + 1 + 1 + 1) m (by omega) (by omega) (by omega) (by rw [hT]; omega) (by rw [hT]; omega) (by rw [hT]; omega) (by rw [hT]; omega) 5 (by omega) s (by omega) w1 bP1 bS1 bZ1 hm1
  have hlen := cutB_len s
  clear bP1 bS1 bZ1 hm1
  have hO : ∀ A B, Own1 (w.heap.size + 1) A B → Stir (fun k => k = w.heap.size + 1) A B := fun A B h => h.1
  gi_wp2_with fail
  refine wpIn_rangeFunc_T rfl h1 (gf := 59) (lb := #[.pointer (some ⟨w.heap.size + 1 + 1, 0, none⟩), .pointer (some ⟨w.heap.size + 1, 0, none⟩), .pointer (some ⟨w.heap.size + 1 + 1 + 1, 0, none⟩)]) rfl trivial (enters_of Tryd.func59 (by kernel_rfl) rfl)
    hseq (own1_plain _) stirK_t (stirK_b (by rw [hT]; intro k hk; omega)) (Below.refl _ _) (fun _ => rfl)
    (fun pre W => ((∃ v, Boxed W w.heap.size 23 v ∧ W.ownsRow (w.heap.size + 4) 31 2 v (readL (pre.map (·.1))).length ((readL (pre.map (·.1))).flatMap encSp) ∧ True) ∧ Stir T2 w1 W) ∧ okL (pre.map (·.1)))
    (fun c pre W => ((∃ v, Boxed W w.heap.size 23 v ∧ W.ownsRow (w.heap.size + 4) 31 2 v (readL (pre.map (·.1))).length ((readL (pre.map (·.1))).flatMap encSp) ∧ True) ∧ Stir T2 w1 W) ∧ (c = .exit 0 ∧ ∀ t, readL (pre.map (·.1) ++ t) = readL (pre.map (·.1))))
    (OwnFrom.and (OwnFrom.and (Own.from (holdsRow_own (w.heap.size + 4) w.heap.size 23 31 2 (fun pre : List Pc => (readL (pre.map (·.1))).length) (fun pre => (readL (pre.map (·.1))).flatMap encSp) (fun _ _ => True)) _) (ownFrom_stir w1 (by rw [hT2]; intro k hk; omega))) (ownFrom_pure' _))
    (fun c => OwnFrom.and (OwnFrom.and (Own.from (holdsRow_own (w.heap.size + 4) w.heap.size 23 31 2 (fun pre : List Pc => (readL (pre.map (·.1))).length) (fun pre => (readL (pre.map (·.1))).flatMap encSp) (fun _ _ => True)) _) (ownFrom_stir w1 (by rw [hT2]; intro k hk; omega))) (ownFrom_pure' _)) ?abides ?abidesx
    ⟨⟨⟨_, bO1, World.ownsRow_nil _ _ _ _, trivial⟩, Stir.refl _ _⟩, fun x hx => by cases hx⟩
    (fun x => { tmps := #[.string s, undef, .slice none 0 0, .bool false, .pointer (some ⟨w.heap.size, 0, none⟩), .string x.1, undef, undef, undef, undef, undef, undef, undef, .string s, .func (.func 59) #[] #[.pointer (some ⟨w.heap.size + 1 + 1, 0, none⟩), .pointer (some ⟨w.heap.size + 1, 0, none⟩), .pointer (some ⟨w.heap.size + 1 + 1 + 1, 0, none⟩)], .string x.1, undef, undef, undef, undef, undef, undef, undef, undef, undef, undef, undef, undef, undef, undef, undef, undef, undef, undef, undef, undef, undef, undef, undef, undef, undef, undef, undef, undef, undef, undef, undef, undef, undef, undef, undef, undef, undef, undef, undef, undef, undef], defers := [] }) ?assign ?body ?done ?stop
  case abides =>
    rintro p X Y ⟨⟨⟨v, h1, h2, _⟩, h3⟩, h4⟩ hr
    have hs := hO _ _ hr
    refine ⟨⟨⟨v, boxed_stir h1 hs (by omega), hs.owns h2 (fun k hk => ?_), trivial⟩, h3.trans hs (fun i _ e => by rw [hT2]; omega)⟩, h4⟩
    have := (h2.lt k hk).1
    omega
  case abidesx =>
    rintro c p X Y ⟨⟨⟨v, h1, h2, _⟩, h3⟩, h4⟩ hr
    have hs := hO _ _ hr
    refine ⟨⟨⟨v, boxed_stir h1 hs (by omega), hs.owns h2 (fun k hk => ?_), trivial⟩, h3.trans hs (fun i _ e => by rw [hT2]; omega)⟩, h4⟩
    have := (h2.lt k hk).1
    omega
  case assign =>
    intro l x W K hK
    gi_wp2
    exact hK
  case body =>
    rintro l pre x W ⟨⟨⟨v, hv, hrow, _⟩, hS⟩, hok⟩ hlen2
    have hsz : w1.heap.size ≤ W.heap.size := hS.size
    have hWb : Below w.heap.size w W := hb1.trans (hS.below (by omega) (by rw [hT2]; intro k h; exact h))
    have hWW : Wd W := hW.of hWb
    obtain ⟨m', hm'⟩ := hWW.most
    have hrl := readL_len (pre.map (·.1))
    rw [List.length_map] at hrl
    have hcs := cut_sizes x.1
    have hxs := x.2
    have hTb : ∀ i, w.heap.size + 4 ≤ i → T i := by intro k hk; rw [hT]; exact .inr hk
    have hTB : T w.heap.size := by rw [hT]; exact .inl rfl
    have hCut : Calls Tryd.prog 30 #[.string x.1, .string ⟨#[45]⟩] W fun e w' => e = .returned (.tuple #[.string (cut1 x.1), .string (cut2 x.1), .bool (cutH x.1)]) ∧ ∃ n, w' = W.drewN n := Tryd.strings_Cut x.1 ⟨#[45]⟩ m' W (by omega) hm'
    have hA : ∀ w', Below W.heap.size W w' → _ := fun w' hb => atoi_err (cut1 x.1) (by omega) w' (hWW.of hb)
    have hA2 : ∀ w', Below W.heap.size W w' → _ := fun w' hb => atoi_err (cut2 x.1) (by omega) w' (hWW.of hb)
    have HRL : Hid (∀ sp, oneP x.1 = some sp → readL ((pre ++ [x]).map (·.1)) = readL (pre.map (·.1)) ++ [sp]) := Lib.hid fun sp h => by rw [List.map_append, readL_app _ hok]; show _ ++ readL [x.1] = _; rw [readL, h]; rfl
    have HNO : Hid (oneP x.1 = none → readL ((pre ++ [x]).map (·.1)) = readL (pre.map (·.1))) := Lib.hid fun h => by rw [List.map_append, readL_app _ hok]; show _ ++ readL [x.1] = _; rw [readL, h, List.append_nil]
    have HOK : Hid ((oneP x.1).isSome = true → okL ((pre ++ [x]).map (·.1))) := Lib.hid fun h y hy => by
      rw [List.map_append] at hy
      rcases List.mem_append.1 hy with hy | hy
      · exact hok y hy
      · obtain rfl : y = x.1 := by simpa using hy
        exact h
    have HOKP := Lib.hid hok
    clear hok hm' hWb
    gi_wp2_with fail
    refine ⟨trivial, ((callsIn_wide.2 hCut).inRound l).mono ?_⟩
    rintro e w3 ⟨rfl, nq, hw3⟩
    have hB3 : Below W.heap.size W w3 := by rw [hw3]; exact ((Stir.refl (fun _ => False) W).drewN nq).below (Nat.le_refl _) (fun _ e => e.elim)
    clear hCut hw3
    gi_wp2_with fail
    refine ⟨trivial, ((callsIn_wide.2 (hA _ hB3)).inRound l).mono ?_⟩
    rintro e w4 ⟨ev, rfl, he1, he2, hB4⟩
    have HBX := Lib.hid (hB3.trans (hB4.mono hB3.size))
    clear hA hB3 hB4
    cases hH : cutH x.1 with
    | false =>
      cases ho : atoiO (cut1 x.1) with
      | false =>
        have HP : Hid (oneP x.1 = none) := Lib.hid (by unfold oneP; rw [if_neg (by rw [ho]; simp)])
        obtain ⟨te, pe, rfl⟩ := he2 ho
        clear he1 he2 hA2 ho
        have hv0 := boxed_stir hv (Stir.of_below HBX.out (fun _ => False)) (fun e => e)
        have hrowx := (Stir.of_below HBX.out (fun _ => False)).owns hrow (fun _ _ e => e)
        have Hq := Lib.hid (And.intro hv0 hrowx)
        clear hv hrow hv0 hrowx
        gi_wp2
        obtain ⟨b1, b2⟩ := Hq.out
        refine ⟨(KeepsOthers.of_below HBX.out).from _, ⟨⟨_, b1, ?_, trivial⟩, hS.trans (Stir.of_below HBX.out (fun _ => False)) (fun _ _ e => e.elim)⟩, rfl, ?_⟩
        · rw [HNO.out HP.out]; exact b2
        · intro t; rw [HNO.out HP.out, List.map_append, List.append_assoc, readL_app _ HOKP.out]; show _ ++ readL (x.1 :: t) = _; rw [readL, HP.out, List.append_nil]
      | true =>
        have HP : Hid (oneP x.1 = some ⟨atoiV (cut1 x.1), atoiV (cut1 x.1)⟩) := Lib.hid (by unfold oneP; rw [if_pos ⟨ho, by rw [hH]; simp⟩, hH]; rfl)
        obtain rfl := he1 ho
        clear he1 he2 hA2 ho
        have hv0 := (boxed_stir hv (Stir.of_below HBX.out (fun _ => False)) (fun e => e)).alloc (.cells #[.int .i64 (atoiV (cut1 x.1)), .int .i64 (atoiV (cut1 x.1))] 31)
        have hf0 := hv0.frozen
        have hc := (boxed_stir hv (Stir.of_below HBX.out (fun _ => False)) (fun e => e)).cell
        have hrowx := (Stir.of_below HBX.out (fun _ => False)).owns hrow (fun _ _ e => e)
        have hrow0 := hrowx.kept (World.grownBy_alloc w4 (.cells #[.int .i64 (atoiV (cut1 x.1)), .int .i64 (atoiV (cut1 x.1))] 31) none) (by cases h : v.ownBlock with | none => exact .inl rfl | some _ => exact .inr (by simp))
        have hS0 : Stir T W (w4.alloc (.cells #[.int .i64 (atoiV (cut1 x.1)), .int .i64 (atoiV (cut1 x.1))] 31)) := (Stir.of_below HBX.out T).alloc _
        have hK0 : KeepsOthers W (w4.alloc (.cells #[.int .i64 (atoiV (cut1 x.1)), .int .i64 (atoiV (cut1 x.1))] 31)) := (KeepsOthers.of_below HBX.out).trans (KeepsOthers.alloc _ _)
        have hx : ∀ j u, ([.int .i64 (atoiV (cut1 x.1)), .int .i64 (atoiV (cut1 x.1))] : List Value)[j]? = some u → (w4.alloc (.cells #[.int .i64 (atoiV (cut1 x.1)), .int .i64 (atoiV (cut1 x.1))] 31)).cell? ((⟨w4.heap.size, 0, none⟩ : Addr).add j) = some u := by
          intro j u hj
          match j, hj with
          | 0, hj => cases hj; show (w4.alloc _).cell? ⟨w4.heap.size, 0, none⟩ = _; unfold World.cell?; rw [heap_alloc_new]; rfl
          | 1, hj => cases hj; show (w4.alloc _).cell? ⟨w4.heap.size, 0 + 1, none⟩ = _; unfold World.cell?; rw [heap_alloc_new]; rfl
          | j + 2, hj => simp at hj
        have hzx : w.heap.size + 4 ≤ w4.heap.size := by have := HBX.out.size; omega
        gi_wp2_with (gi_at_builtin; go_loud (refine wpListIn_append_own (w4.alloc (.cells #[.int .i64 (atoiV (cut1 x.1)), .int .i64 (atoiV (cut1 x.1))] 31)) rfl (.tmp 41) (.tmp 45) 23 rfl (w.heap.size + 4) 31 i0 (.agg #[.int .i64 0, .int .i64 0]) 2 16 Tryd.underlying23 hi hz0 hz1 hz2 rfl (by decide) _ _ _ rfl hrow0 ⟨w4.heap.size, 0, none⟩ 1 1 [.int .i64 (atoiV (cut1 x.1)), .int .i64 (atoiV (cut1 x.1))] rfl rfl hx (by intro u hu; simp at hu; rcases hu with rfl | rfl <;> rfl) (by unfold maxLen; omega) (by omega) (by simp; omega) ?_))
        intro v' w7 hown hgrow _
        obtain ⟨b1, b2, b3, b4, b5⟩ := Cav.Boxed.app hv (by decide) hrow hK0 hS0 hv0 hrow0 hTB hTb hown hgrow
        obtain ⟨a3, c3, rfl⟩ := owns_slice hown
        have m1 := b1.cell
        have m2 := b1.frozen
        have Hq := Lib.hid (And.intro b2 (And.intro b3 (And.intro b4 b5)))
        clear hown hgrow hrow b1 b2 b3 b4 b5 hc hv hv0 hrow0 hrowx hS0 hK0 hx hf0 HBX
        gi_wp2
        obtain ⟨b2, b3, b4, b5⟩ := Hq.out
        refine ⟨b4.from _, b5, ⟨⟨_, b2, ?_, trivial⟩, hS.trans b5 (fun i _ e => hTT i e)⟩, ?_⟩
        · rw [HRL.out _ HP.out]
          simpa [encSp] using b3
        · exact HOK.out (by rw [HP.out]; rfl)
    | true =>
      gi_wp2_with fail
      refine ⟨trivial, ((callsIn_wide.2 (hA2 _ HBX.out)).inRound l).mono ?_⟩
      rintro e w5 ⟨ev2, rfl, hg1, hg2, hB5⟩
      have HBY := Lib.hid (HBX.out.trans (hB5.mono HBX.out.size))
      clear HBX hB5 hA2
      have HBX := HBY
      clear HBY
      cases ho : atoiO (cut1 x.1) with
      | false =>
        have HP : Hid (oneP x.1 = none) := Lib.hid (by unfold oneP; rw [if_neg (by rw [ho]; simp)])
        obtain ⟨te, pe, rfl⟩ := he2 ho
        clear he1 he2 hg1 hg2 ho
        have hv0 := boxed_stir hv (Stir.of_below HBX.out (fun _ => False)) (fun e => e)
        have hrowx := (Stir.of_below HBX.out (fun _ => False)).owns hrow (fun _ _ e => e)
        have Hq := Lib.hid (And.intro hv0 hrowx)
        clear hv hrow hv0 hrowx
        gi_wp2
        obtain ⟨b1, b2⟩ := Hq.out
        refine ⟨(KeepsOthers.of_below HBX.out).from _, ⟨⟨_, b1, ?_, trivial⟩, hS.trans (Stir.of_below HBX.out (fun _ => False)) (fun _ _ e => e.elim)⟩, rfl, ?_⟩
        · rw [HNO.out HP.out]; exact b2
        · intro t; rw [HNO.out HP.out, List.map_append, List.append_assoc, readL_app _ HOKP.out]; show _ ++ readL (x.1 :: t) = _; rw [readL, HP.out, List.append_nil]
      | true =>
        obtain rfl := he1 ho
        cases ho2 : atoiO (cut2 x.1) with
        | false =>
          have HP : Hid (oneP x.1 = none) := Lib.hid (by unfold oneP; rw [if_neg (by rw [hH, ho2]; simp)])
          obtain ⟨te, pe, rfl⟩ := hg2 ho2
          clear he1 he2 hg1 hg2 ho ho2
          have hv0 := boxed_stir hv (Stir.of_below HBX.out (fun _ => False)) (fun e => e)
          have hrowx := (Stir.of_below HBX.out (fun _ => False)).owns hrow (fun _ _ e => e)
          have Hq := Lib.hid (And.intro hv0 hrowx)
          clear hv hrow hv0 hrowx
          gi_wp2
          obtain ⟨b1, b2⟩ := Hq.out
          refine ⟨(KeepsOthers.of_below HBX.out).from _, ⟨⟨_, b1, ?_, trivial⟩, hS.trans (Stir.of_below HBX.out (fun _ => False)) (fun _ _ e => e.elim)⟩, rfl, ?_⟩
          · rw [HNO.out HP.out]; exact b2
          · intro t; rw [HNO.out HP.out, List.map_append, List.append_assoc, readL_app _ HOKP.out]; show _ ++ readL (x.1 :: t) = _; rw [readL, HP.out, List.append_nil]
        | true =>
          have HP : Hid (oneP x.1 = some ⟨atoiV (cut1 x.1), atoiV (cut2 x.1)⟩) := Lib.hid (by unfold oneP; rw [if_pos ⟨ho, fun _ => ho2⟩, hH]; rfl)
          obtain rfl := hg1 ho2
          clear he1 he2 hg1 hg2 ho ho2
          have hv0 := (boxed_stir hv (Stir.of_below HBX.out (fun _ => False)) (fun e => e)).alloc (.cells #[.int .i64 (atoiV (cut1 x.1)), .int .i64 (atoiV (cut2 x.1))] 31)
          have hf0 := hv0.frozen
          have hc := (boxed_stir hv (Stir.of_below HBX.out (fun _ => False)) (fun e => e)).cell
          have hrowx := (Stir.of_below HBX.out (fun _ => False)).owns hrow (fun _ _ e => e)
          have hrow0 := hrowx.kept (World.grownBy_alloc w5 (.cells #[.int .i64 (atoiV (cut1 x.1)), .int .i64 (atoiV (cut2 x.1))] 31) none) (by cases h : v.ownBlock with | none => exact .inl rfl | some _ => exact .inr (by simp))
          have hS0 : Stir T W (w5.alloc (.cells #[.int .i64 (atoiV (cut1 x.1)), .int .i64 (atoiV (cut2 x.1))] 31)) := (Stir.of_below HBX.out T).alloc _
          have hK0 : KeepsOthers W (w5.alloc (.cells #[.int .i64 (atoiV (cut1 x.1)), .int .i64 (atoiV (cut2 x.1))] 31)) := (KeepsOthers.of_below HBX.out).trans (KeepsOthers.alloc _ _)
          have hx : ∀ j u, ([.int .i64 (atoiV (cut1 x.1)), .int .i64 (atoiV (cut2 x.1))] : List Value)[j]? = some u → (w5.alloc (.cells #[.int .i64 (atoiV (cut1 x.1)), .int .i64 (atoiV (cut2 x.1))] 31)).cell? ((⟨w5.heap.size, 0, none⟩ : Addr).add j) = some u := by
            intro j u hj
            match j, hj with
            | 0, hj => cases hj; show (w5.alloc _).cell? ⟨w5.heap.size, 0, none⟩ = _; unfold World.cell?; rw [heap_alloc_new]; rfl
            | 1, hj => cases hj; show (w5.alloc _).cell? ⟨w5.heap.size, 0 + 1, none⟩ = _; unfold World.cell?; rw [heap_alloc_new]; rfl
            | j + 2, hj => simp at hj
          have hzx : w.heap.size + 4 ≤ w5.heap.size := by have := HBX.out.size; omega
          gi_wp2_with (gi_at_builtin; go_loud (refine wpListIn_append_own (w5.alloc (.cells #[.int .i64 (atoiV (cut1 x.1)), .int .i64 (atoiV (cut2 x.1))] 31)) rfl (.tmp 41) (.tmp 45) 23 rfl (w.heap.size + 4) 31 i0 (.agg #[.int .i64 0, .int .i64 0]) 2 16 Tryd.underlying23 hi hz0 hz1 hz2 rfl (by decide) _ _ _ rfl hrow0 ⟨w5.heap.size, 0, none⟩ 1 1 [.int .i64 (atoiV (cut1 x.1)), .int .i64 (atoiV (cut2 x.1))] rfl rfl hx (by intro u hu; simp at hu; rcases hu with rfl | rfl <;> rfl) (by unfold maxLen; omega) (by omega) (by simp; omega) ?_))
          intro v' w7 hown hgrow _
          obtain ⟨b1, b2, b3, b4, b5⟩ := Cav.Boxed.app hv (by decide) hrow hK0 hS0 hv0 hrow0 hTB hTb hown hgrow
          obtain ⟨a3, c3, rfl⟩ := owns_slice hown
          have m1 := b1.cell
          have m2 := b1.frozen
          have Hq := Lib.hid (And.intro b2 (And.intro b3 (And.intro b4 b5)))
          clear hown hgrow hrow b1 b2 b3 b4 b5 hc hv hv0 hrow0 hrowx hS0 hK0 hx hf0 HBX
          gi_wp2
          obtain ⟨b2, b3, b4, b5⟩ := Hq.out
          refine ⟨b4.from _, b5, ⟨⟨_, b2, ?_, trivial⟩, hS.trans b5 (fun i _ e => hTT i e)⟩, ?_⟩
          · rw [HRL.out _ HP.out]
            simpa [encSp] using b3
          · exact HOK.out (by rw [HP.out]; rfl)
  case done =>
    rintro D ys W W0 hD hxs hWe ⟨⟨⟨v, hv, hrow, _⟩, hS⟩, hok⟩ hK
    have hl : readL (cutB s) = readL (ys.map (·.1)) := by rw [show ys.map (·.1) = cutB s from hxs]
    have hsz : w1.heap.size ≤ W.heap.size := hS.size
    have hWb : Below w.heap.size w W := hb1.trans (hS.below (by omega) (by rw [hT2]; intro k h; exact h))
    have hWW : Wd W := hW.of hWb
    have hLl := readL_len (cutB s)
    have HRP : Hid (readP s = if mayB (readL (cutB s)) = true ∧ textS (readL (cutB s)) = s then (readL (cutB s), true) else ([], false)) := Lib.hid rfl
    rw [← hl] at hrow
    generalize readL (cutB s) = L at hrow hLl HRP
    have HFIN : Hid (∀ w4, Below W.heap.size W w4 → w4.heap[D]? = some (.deferred (some [])) ∧ Below w.heap.size w (w4.putObj D (.deferred none)) ∧ Kd.R k31 31 (w4.putObj D (.deferred none)) w.heap.size (fun _ => True) v L) := Lib.hid fun w4 hb => by
      have hK4 : w4.heap[D]? = some (.deferred (some [])) := (hb.block D (lt_of_heap hK)).trans hK
      refine ⟨hK4, hb1.trans (((hS.trans (Stir.of_below hb (fun _ => False)) (fun _ _ e => e.elim)).trans (stirK_b (T := T2) (w := w1) (by rw [hT2]; intro k hk; omega) w4 D _ (.deferred none) (by omega) hK4 rfl rfl) (fun _ _ e => e)).below (by omega) (by rw [hT2]; intro k h; omega)), Kd.R_lower (R_cells (((Stir.of_below hb (fun _ => False)).owns hrow (fun _ _ e => e)).kept (grownBy_putObj' w4 D _) ?_)) (by omega)⟩
      cases hv' : v.ownBlock with
      | none => exact .inl rfl
      | some k =>
        refine .inr fun e' => ?_
        obtain rfl : k = D := by simpa using e'
        obtain ⟨cells, hcells⟩ := own_typed hrow k hv'
        rw [hK] at hcells; cases hcells
    obtain ⟨A, c, rfl⟩ := owns_slice hrow
    have hrd := Kd.R_reads' (R_cells hrow)
    have hMay := may_any A c L W hrd.2.2 hrd.2.1 (by omega)
    have hTx : ∀ w', Below W.heap.size W w' → _ := fun w' hb => text_any A c L w' (Kd.C_below hrd.2.2 hb) hrd.2.1 (by omega) (hWW.of hb)
    have hc := hv.cell
    clear hv hrow hrd hS hK hl hxs hWe hok hsz hWb hWW
    gi_wp2_with fail
    refine ⟨trivial, (callsIn_wide.2 hMay).mono ?_⟩
    rintro e w3 ⟨rfl, hB3⟩
    have hc3 := (Stir.of_below hB3 (fun _ => False)).cell hc (fun e => e)
    clear hc hMay
    have HB3 := Lib.hid hB3
    cases hmb : mayB L with
    | false =>
      clear hTx hB3
      gi_wp2_with fail
      refine ⟨trivial, ?_⟩
      gi_wp2
      obtain ⟨hK4, hB4, _⟩ := HFIN.out _ HB3.out
      refine ⟨by simp, .inl ⟨_, _, rfl, run_takeDeferred hK4, ?_⟩⟩
      rw [HRP.out, if_neg (by rw [hmb]; simp)]
      exact ⟨_, results_tmp2 rfl _ _ _, _, rfl, Kd.R_nil _ _ _ _ _, hB4⟩
    | true =>
      gi_wp2_with fail
      refine ⟨trivial, (callsIn_wide.2 (hTx _ hB3)).mono ?_⟩
      rintro e w4 ⟨rfl, hB4⟩
      have hc4 := (Stir.of_below hB4 (fun _ => False)).cell hc3 (fun e => e)
      have HB4 := Lib.hid (HB3.out.trans (hB4.mono HB3.out.size))
      clear hTx hB3 hB4 hc3
      by_cases hts : textS L = s
      · have hq : ((textS L).toList == s.toList) = true := by rw [hts]; simp
        rw [hts] at hq ⊢
        gi_wp2
        obtain ⟨hK4, hB4, hR4⟩ := HFIN.out _ HB4.out
        refine ⟨by simp, .inl ⟨_, _, rfl, run_takeDeferred hK4, ?_⟩⟩
        rw [HRP.out, if_pos ⟨hmb, hts⟩]
        exact ⟨_, results_tmp2 rfl _ _ _, _, rfl, hR4, hB4⟩
      · have hq : ((textS L).toList == s.toList) = false := by rw [beq_eq_false_iff_ne]; exact fun h => hts (Go.Pk.toList_inj h)
        gi_wp2
        obtain ⟨hK4, hB4, _⟩ := HFIN.out _ HB4.out
        refine ⟨by simp, .inl ⟨_, _, rfl, run_takeDeferred hK4, ?_⟩⟩
        rw [HRP.out, if_neg (fun h => hts h.2)]
        exact ⟨_, results_tmp2 rfl _ _ _, _, rfl, Kd.R_nil _ _ _ _ _, hB4⟩
  case stop =>
    rintro D c pre W W0 hD hpre ⟨⟨⟨v, hv, hrow, _⟩, hS⟩, rfl, hst⟩ hK
    have hl : readL (cutB s) = readL (pre.map (·.1)) := by
      obtain ⟨t, ht⟩ := (show pre.map (·.1) <+: cutB s from hpre)
      rw [← ht]; exact hst t
    have hsz : w1.heap.size ≤ W.heap.size := hS.size
    have hWb : Below w.heap.size w W := hb1.trans (hS.below (by omega) (by rw [hT2]; intro k h; exact h))
    have hWW : Wd W := hW.of hWb
    have hLl := readL_len (cutB s)
    have HRP : Hid (readP s = if mayB (readL (cutB s)) = true ∧ textS (readL (cutB s)) = s then (readL (cutB s), true) else ([], false)) := Lib.hid rfl
    rw [← hl] at hrow
    generalize readL (cutB s) = L at hrow hLl HRP
    have HFIN : Hid (∀ w4, Below W.heap.size W w4 → w4.heap[D]? = some (.deferred (some [])) ∧ Below w.heap.size w (w4.putObj D (.deferred none)) ∧ Kd.R k31 31 (w4.putObj D (.deferred none)) w.heap.size (fun _ => True) v L) := Lib.hid fun w4 hb => by
      have hK4 : w4.heap[D]? = some (.deferred (some [])) := (hb.block D (lt_of_heap hK)).trans hK
      refine ⟨hK4, hb1.trans (((hS.trans (Stir.of_below hb (fun _ => False)) (fun _ _ e => e.elim)).trans (stirK_b (T := T2) (w := w1) (by rw [hT2]; intro k hk; omega) w4 D _ (.deferred none) (by omega) hK4 rfl rfl) (fun _ _ e => e)).below (by omega) (by rw [hT2]; intro k h; omega)), Kd.R_lower (R_cells (((Stir.of_below hb (fun _ => False)).owns hrow (fun _ _ e => e)).kept (grownBy_putObj' w4 D _) ?_)) (by omega)⟩
      cases hv' : v.ownBlock with
      | none => exact .inl rfl
      | some k =>
        refine .inr fun e' => ?_
        obtain rfl : k = D := by simpa using e'
        obtain ⟨cells, hcells⟩ := own_typed hrow k hv'
        rw [hK] at hcells; cases hcells
    obtain ⟨A, c, rfl⟩ := owns_slice hrow
    have hrd := Kd.R_reads' (R_cells hrow)
    have hMay := may_any A c L W hrd.2.2 hrd.2.1 (by omega)
    have hTx : ∀ w', Below W.heap.size W w' → _ := fun w' hb => text_any A c L w' (Kd.C_below hrd.2.2 hb) hrd.2.1 (by omega) (hWW.of hb)
    have hc := hv.cell
    clear hv hrow hrd hS hK hl hpre hst hsz hWb hWW
    gi_wp2_with fail
    refine ⟨trivial, (callsIn_wide.2 hMay).mono ?_⟩
    rintro e w3 ⟨rfl, hB3⟩
    have hc3 := (Stir.of_below hB3 (fun _ => False)).cell hc (fun e => e)
    clear hc hMay
    have HB3 := Lib.hid hB3
    cases hmb : mayB L with
    | false =>
      clear hTx hB3
      gi_wp2_with fail
      refine ⟨trivial, ?_⟩
      gi_wp2
      obtain ⟨hK4, hB4, _⟩ := HFIN.out _ HB3.out
      refine ⟨by simp, .inl ⟨_, _, rfl, run_takeDeferred hK4, ?_⟩⟩
      rw [HRP.out, if_neg (by rw [hmb]; simp)]
      exact ⟨_, results_tmp2 rfl _ _ _, _, rfl, Kd.R_nil _ _ _ _ _, hB4⟩
    | true =>
      gi_wp2_with fail
      refine ⟨trivial, (callsIn_wide.2 (hTx _ hB3)).mono ?_⟩
      rintro e w4 ⟨rfl, hB4⟩
      have hc4 := (Stir.of_below hB4 (fun _ => False)).cell hc3 (fun e => e)
      have HB4 := Lib.hid (HB3.out.trans (hB4.mono HB3.out.size))
      clear hTx hB3 hB4 hc3
      by_cases hts : textS L = s
      · have hq : ((textS L).toList == s.toList) = true := by rw [hts]; simp
        rw [hts] at hq ⊢
        gi_wp2
        obtain ⟨hK4, hB4, hR4⟩ := HFIN.out _ HB4.out
        refine ⟨by simp, .inl ⟨_, _, rfl, run_takeDeferred hK4, ?_⟩⟩
        rw [HRP.out, if_pos ⟨hmb, hts⟩]
        exact ⟨_, results_tmp2 rfl _ _ _, _, rfl, hR4, hB4⟩
      · have hq : ((textS L).toList == s.toList) = false := by rw [beq_eq_false_iff_ne]; exact fun h => hts (Go.Pk.toList_inj h)
        gi_wp2
        obtain ⟨hK4, hB4, _⟩ := HFIN.out _ HB4.out
        refine ⟨by simp, .inl ⟨_, _, rfl, run_takeDeferred hK4, ?_⟩⟩
        rw [HRP.out, if_neg (fun h => hts h.2)]
        exact ⟨_, results_tmp2 rfl _ _ _, _, rfl, Kd.R_nil _ _ _ _ _, hB4⟩
end Go.Proofs.YtnlakdpfkgjdaaaDoor.G
