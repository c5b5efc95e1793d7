/- What 'rising' tells of an iterator's texts. Conditions: a bound on their number. -/
import Derived.Test.YtbmimcpllpgcaaaIb
import Derived.Test.YtbmimcpllpgcaaaCavValC
namespace Go.Proofs.Ytbmimcpllpgcaaa
open Go.RowKit Go.Shelf Go.Cav

attribute [local go_sem] Oper.semAt_some

/-- the last text, or the empty one -/
def lastS (l : List ByteArray) : ByteArray := l.getLast?.getD ⟨#[]⟩
theorem lastS_snoc (l : List ByteArray) (x : ByteArray) : lastS (l ++ [x]) = x := by simp [lastS]
/-- is a text at or below the one ahead of it? -/
def lowP (y x : ByteArray) : Bool := Op.bytesLess y.toList x.toList || y.toList == x.toList
/-- each is above the one ahead of it -/
def risesP : List ByteArray → Prop
  | [] => True
  | x :: l => (∀ y, l.head? = some y → lowP y x = false) ∧ risesP l
theorem risesP_snoc (l : List ByteArray) (x : ByteArray) : risesP (l ++ [x]) ↔ risesP l ∧ (l ≠ [] → lowP x (lastS l) = false) := by
  induction l with
  | nil => simp [risesP]
  | cons a l ih =>
    cases l with
    | nil => simp [risesP, lastS]
    | cons b l =>
      have h0 : risesP (a :: b :: l ++ [x]) ↔ (∀ y, (b :: l ++ [x]).head? = some y → lowP y a = false) ∧ risesP (b :: l ++ [x]) := Iff.rfl
      have h1 : risesP (a :: b :: l) ↔ (∀ y, (b :: l).head? = some y → lowP y a = false) ∧ risesP (b :: l) := Iff.rfl
      have h2 : lastS (a :: b :: l) = lastS (b :: l) := by simp [lastS]
      rw [h0, h1, ih, h2]
      simp only [List.cons_append, List.head?_cons]
      constructor
      · rintro ⟨q1, q2, q3⟩; exact ⟨⟨q1, q2⟩, fun _ => q3 (by simp)⟩
      · rintro ⟨⟨q1, q2⟩, q3⟩; exact ⟨q1, q2, fun _ => q3 (by simp)⟩

theorem prefix_rises (l m : List ByteArray) (h : l <+: m) (hm : risesP m) : risesP l := by
  obtain ⟨t, rfl⟩ := h
  induction l with
  | nil => trivial
  | cons a l ih =>
    have h0 : risesP (a :: l ++ t) ↔ (∀ y, (l ++ t).head? = some y → lowP y a = false) ∧ risesP (l ++ t) := Iff.rfl
    obtain ⟨q1, q2⟩ := h0.1 hm
    refine ⟨fun y hy => q1 y ?_, ih q2⟩
    cases l with
    | nil => simp at hy
    | cons b l => simpa using hy

theorem results_bool {fn : Func} {p : Tmp} (h : fn.results = #[.cell p 4]) (tmps : Array Value) (w : World) (g : Nat) (b : Bool) (hp : tmps.getD p undef = .pointer (some ⟨g, 0, none⟩)) (hc : w.cell? ⟨g, 0, none⟩ = some (.bool b)) :
    (results fn tmps).run Try.prog w = .ok (.bool b) w := by
  have hp' : tmps[p]?.getD undef = .pointer (some ⟨g, 0, none⟩) := by simpa using hp
  simp [results, h, hp', asAddr, go_sem, hc]

set_option maxRecDepth 100000 in
set_option maxHeartbeats 2000000 in
theorem rising_any {α : Type} (nm : α → ByteArray) (zs : List α) (gf Bx : Nat) (w : World) (eg : ∀ args w, (callFunc gf args).run Try.prog w = .ok (.enter gf args) w)
    (hit : ∀ T : Nat → Prop, (∀ k, T k → w.heap.size ≤ k ∧ k < w.heap.size + 3) → IterC Fence.wide 5 Try.prog gf #[.pointer (some ⟨Bx, 0, none⟩)] (fun x : α => #[.string (nm x)]) w.heap.size T zs w) :
    Calls Try.prog 33 #[.func (.func gf) #[] #[.pointer (some ⟨Bx, 0, none⟩)]] w fun e w' => ∃ b : Bool, e = .returned (.bool b) ∧ (b = true ↔ risesP (zs.map nm)) ∧ Below w.heap.size w w' := by
  refine (callsIn_wide (n := 6)).1 ?_
  have h1 : 1 ≤ 6 := by omega
  refine callsIn_of_wp_marks Try.func33 rfl trivial ?_ rfl
  simp only [Try.ntmps33, List.size_toArray, List.length_cons, List.length_nil, Nat.reduceAdd, Nat.reduceSub, Array.replicate_succ, Array.replicate_zero, List.push_toArray, List.append_toArray, List.nil_append, List.cons_append]
  have bA := Boxed.new w 4 (.bool false)
  have bB := Boxed.new (w.alloc (.cells #[.bool false] 4)) 4 (.bool true)
  have bC := Boxed.new ((w.alloc (.cells #[.bool false] 4)).alloc (.cells #[.bool true] 4)) 9 (.string ⟨#[]⟩)
  have bB := bB.alloc (.cells #[.string ⟨#[]⟩] 9)
  have bA := (bA.alloc (.cells #[.bool true] 4)).alloc (.cells #[.string ⟨#[]⟩] 9)
  simp only [World.size_alloc] at bA bB bC
  have hb0 : Below w.heap.size w (((w.alloc (.cells #[.bool false] 4)).alloc (.cells #[.bool true] 4)).alloc (.cells #[.string ⟨#[]⟩] 9)) := (((Below.refl _ w).alloc (Nat.le_refl _) _).alloc (by simp) _).alloc (by simp; omega) _
  have hz0 : (((w.alloc (.cells #[.bool false] 4)).alloc (.cells #[.bool true] 4)).alloc (.cells #[.string ⟨#[]⟩] 9)).heap.size = w.heap.size + 3 := by simp
  gi_wp2_with fail
  generalize (((w.alloc (.cells #[.bool false] 4)).alloc (.cells #[.bool true] 4)).alloc (.cells #[.string ⟨#[]⟩] 9)) = w2 at bA bB bC hb0 hz0 ⊢
  obtain ⟨T, hT⟩ : ∃ T : Nat → Prop, T = (fun k => w.heap.size ≤ k ∧ k < w.heap.size + 3) := ⟨_, rfl⟩
  refine wpIn_rangeFunc_ownG rfl h1 (gf := gf) (lb := #[.pointer (some ⟨Bx, 0, none⟩)]) rfl trivial eg
    (hit T (by rw [hT]; exact fun k h => h))
    stirC_t (fun W l o o' a b c _ => stirC_b W l o o' (by omega) b c) hb0 (fun _ => rfl)
    (fun pre W => (Boxed W w.heap.size 4 (.bool false) ∧ Boxed W (w.heap.size + 1) 4 (.bool pre.isEmpty) ∧ Boxed W (w.heap.size + 1 + 1) 9 (.string (lastS (pre.map nm))) ∧ StirC w.heap.size T w2 W) ∧ risesP (pre.map nm))
    (fun c pre W => (Boxed W w.heap.size 4 (.bool false) ∧ StirC w.heap.size T w2 W) ∧ (c = .ret ∧ ¬ risesP (pre.map nm)))
    (OwnFrom.and (OwnFrom.and (Own.from (boxed_own _ _ _) _) (OwnFrom.and (Own.from (boxed_own _ _ _) _) (OwnFrom.and (Own.from (boxed_own _ _ _) _) (ownFrom_stirC w2 (by omega))))) (ownFrom_pure' _))
    (fun c => OwnFrom.and (OwnFrom.and (Own.from (boxed_own _ _ _) _) (ownFrom_stirC w2 (by omega))) (ownFrom_pure' _))
    ⟨⟨bA, bB, bC, StirC.refl _ _ _⟩, trivial⟩
    (fun x => { tmps := #[.func (.func gf) #[] #[.pointer (some ⟨Bx, 0, none⟩)], undef, .pointer (some ⟨w.heap.size, 0, none⟩), .pointer (some ⟨w.heap.size + 1, 0, none⟩), .pointer (some ⟨w.heap.size + 1 + 1, 0, none⟩), .string (nm x), .func (.func gf) #[] #[.pointer (some ⟨Bx, 0, none⟩)], .string (nm x), undef, undef, undef, undef, undef, undef, undef, undef], defers := [] }) ?assign ?body ?done ?stop
  case assign =>
    intro l x W K hK
    gi_wp2
    exact hK
  case body =>
    rintro l pre x W ⟨⟨v1, v2, v3, hS⟩, hr⟩ hlen
    have c1 := v1.cell
    have c2 := v2.cell
    have c3 := v3.cell
    have f1 := v1.frozen
    have f2 := v2.frozen
    have f3 := v3.frozen
    have hset : ∀ v v' : Value, Boxed ((W.setCell ⟨w.heap.size + 1, 0, none⟩ v).setCell ⟨w.heap.size + 1 + 1, 0, none⟩ v') w.heap.size 4 (.bool false) ∧ Boxed ((W.setCell ⟨w.heap.size + 1, 0, none⟩ v).setCell ⟨w.heap.size + 1 + 1, 0, none⟩ v') (w.heap.size + 1) 4 v ∧
        Boxed ((W.setCell ⟨w.heap.size + 1, 0, none⟩ v).setCell ⟨w.heap.size + 1 + 1, 0, none⟩ v') (w.heap.size + 1 + 1) 9 v' ∧ StirC w.heap.size T W ((W.setCell ⟨w.heap.size + 1, 0, none⟩ v).setCell ⟨w.heap.size + 1 + 1, 0, none⟩ v') ∧ KeepsOthers W ((W.setCell ⟨w.heap.size + 1, 0, none⟩ v).setCell ⟨w.heap.size + 1 + 1, 0, none⟩ v') := fun v v' =>
      ⟨(v1.kept (grownBy_setCell' W _ v) (by simp)).kept (grownBy_setCell' _ _ v') (by simp; omega), (v2.set v).kept (grownBy_setCell' _ _ v') (by simp), (v3.kept (grownBy_setCell' W _ v) (by simp)).set v',
        ((StirC.refl _ T W).setCell (p := ⟨w.heap.size + 1, 0, none⟩) (by rw [hT]; simp) v).setCell (p := ⟨w.heap.size + 1 + 1, 0, none⟩) (by rw [hT]; simp; omega) v', (KeepsOthers.setCell _ _ _).trans (KeepsOthers.setCell _ _ _)⟩
    have hres : Boxed (W.setCell ⟨w.heap.size, 0, none⟩ (.bool false)) w.heap.size 4 (.bool false) ∧ StirC w.heap.size T W (W.setCell ⟨w.heap.size, 0, none⟩ (.bool false)) ∧ KeepsOthers W (W.setCell ⟨w.heap.size, 0, none⟩ (.bool false)) :=
      ⟨v1.set _, (StirC.refl _ T W).setCell (p := ⟨w.heap.size, 0, none⟩) (by rw [hT]; simp) _, KeepsOthers.setCell _ _ _⟩
    have Hset := Lib.hid hset
    have Hres := Lib.hid hres
    clear hset hres
    cases pre with
    | nil =>
      simp only [List.isEmpty_nil] at c2
      gi_wp2
      obtain ⟨b1, b2, b3, b4, b5⟩ := Hset.out (.bool false) (.string (nm x))
      exact ⟨b5.from _, b4, ⟨b1, b2, by simpa [lastS] using b3, hS.trans b4⟩, by simp [risesP]⟩
    | cons a pre =>
      simp only [List.isEmpty_cons] at c2
      obtain ⟨A, hA⟩ : ∃ A, lastS ((a :: pre).map nm) = A := ⟨_, rfl⟩
      have hrs : risesP (((a :: pre) ++ [x]).map nm) ↔ lowP (nm x) A = false := by
        rw [List.map_append]
        have hsn := risesP_snoc ((a :: pre).map nm) (nm x)
        rw [hA] at hsn
        exact ⟨fun h => (hsn.1 h).2 (by simp), fun h => hsn.2 ⟨hr, fun _ => h⟩⟩
      have hls : lastS (((a :: pre) ++ [x]).map nm) = nm x := by rw [List.map_append]; exact lastS_snoc _ _
      rw [hA] at c3
      have Hrs := Lib.hid hrs
      have Hls := Lib.hid hls
      have Hr := Lib.hid hr
      clear hrs hls hA hr v1 v2 v3
      cases q1 : Op.bytesLess (nm x).toList A.toList <;> cases q2 : ((nm x).toList == A.toList)
      · have hlow : Hid (lowP (nm x) A = false) := by unfold lowP; rw [q1, q2]; rfl
        gi_wp2
        obtain ⟨b1, b2, b3, b4, b5⟩ := Hset.out (.bool false) (.string (nm x))
        exact ⟨b5.from _, b4, ⟨b1, by simpa using b2, by rw [Hls.out]; exact b3, hS.trans b4⟩, Hrs.out.2 hlow.out⟩
      all_goals (
        have hlow : Hid (¬ risesP (((a :: pre) ++ [x]).map nm)) := by
          intro h
          have := Hrs.out.1 h
          unfold lowP at this; rw [q1, q2] at this; cases this
        gi_wp2
        obtain ⟨b1, b2, b3⟩ := Hres.out
        exact ⟨b3.from _, ⟨b1, hS.trans b2⟩, rfl, hlow.out⟩)
  case done =>
    rintro D ys W hD rfl ⟨⟨v1, v2, v3, hS⟩, hr⟩ hK
    have c1 := v1.cell
    have f1 := v1.frozen
    have hw : Below w.heap.size w ((W.setCell ⟨w.heap.size, 0, none⟩ (.bool true)).putObj D (.deferred none)) := by
      have t1 := hS.trans ((StirC.refl w.heap.size T W).setCell (p := ⟨w.heap.size, 0, none⟩) (by rw [hT]; simp) (.bool true))
      have hK' : (W.setCell ⟨w.heap.size, 0, none⟩ (.bool true)).heap[D]? = some (.deferred (some [])) := ((KeepsOthers.setCell W ⟨w.heap.size, 0, none⟩ (.bool true)).same D _ hK rfl)
      have t2 := t1.trans (stirC_b (T := T) _ D _ (.deferred none) (by omega) hK' rfl)
      exact t2.below hb0 (by omega) (by rw [hT]; intro k h; exact h.1)
    have hK' : (W.setCell ⟨w.heap.size, 0, none⟩ (.bool true)).heap[D]? = some (.deferred (some [])) := ((KeepsOthers.setCell W ⟨w.heap.size, 0, none⟩ (.bool true)).same D _ hK rfl)
    have b1 : Boxed ((W.setCell ⟨w.heap.size, 0, none⟩ (.bool true)).putObj D (.deferred none)) w.heap.size 4 (.bool true) := (v1.set (.bool true)).kept (grownBy_putObj' _ D _) (by simp; omega)
    gi_wp2
    refine ⟨by simp, .inl ⟨_, _, rfl, run_takeDeferred hK', ?_⟩⟩
    exact ⟨_, results_bool rfl _ _ w.heap.size true rfl b1.cell, true, rfl, ⟨fun _ => hr, fun _ => rfl⟩, hw⟩
  case stop =>
    rintro D c pre W hD hp ⟨⟨v1, hS⟩, rfl, hr⟩ hK
    have hw : Below w.heap.size w (W.putObj D (.deferred none)) := (hS.trans (stirC_b (T := T) _ D _ (.deferred none) (by omega) hK rfl)).below hb0 (by omega) (by rw [hT]; intro k h; exact h.1)
    have b1 : Boxed (W.putObj D (.deferred none)) w.heap.size 4 (.bool false) := v1.kept (grownBy_putObj' _ D _) (by simp; omega)
    gi_wp2
    refine ⟨by simp, .inl ⟨_, _, rfl, run_takeDeferred hK, ?_⟩⟩
    exact ⟨_, results_bool rfl _ _ w.heap.size false rfl b1.cell, false, rfl, ⟨fun h => (by cases h), fun h => absurd (prefix_rises _ _ (hp.map nm) h) hr⟩, hw⟩

end Go.Proofs.Ytbmimcpllpgcaaa
