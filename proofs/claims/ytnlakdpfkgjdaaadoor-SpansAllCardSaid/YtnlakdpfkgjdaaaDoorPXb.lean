import Derived.Test.YtnlakdpfkgjdaaaDoorPSp
import Derived.Test.YtnlakdpfkgjdaaaDoorG3
import Derived.Test.YtnlakdpfkgjdaaaDoorPNm
import Derived.Test.YtnlakdpfkgjdaaaDoorPMy
import Derived.Test.YtnlakdpfkgjdaaaDoorPAw
import Derived.Test.YtnlakdpfkgjdaaaDoorG6
import Derived.Test.YtnlakdpfkgjdaaaDoorG8
import Derived.Test.YtnlakdpfkgjdaaaDoorG2
import Derived.Test.YtnlakdpfkgjdaaaDoorWd
import Derived.Lib.ItoaLen
import Derived.Test.YtnlakdpfkgjdaaaDoorG7
import Derived.Test.YtnlakdpfkgjdaaaDoorG10
/- Lists of marks, and what is told between them: the plain law of the reference's Mix. No conditions. -/
namespace Go.Proofs.YtnlakdpfkgjdaaaDoor.G
open Go.RowKit Go.Proofs.YtnlakdpfkgjdaaaDoorW.PrintWords Go.Proofs.YtnlakdpfkgjdaaaDoorW.PrintLast Go.Proofs.YtnlakdpfkgjdaaaDoorW.PrintMore
/-- one stretch more, from m to before m' -/
def addM (out : List S31) (m m' : Int) : List S31 :=
  match out.getLast? with
  | none => [⟨m, m' - 1⟩]
  | some t => if t.f1 = m - 1 then out.dropLast ++ [⟨t.f0, m' - 1⟩] else out ++ [⟨m, m' - 1⟩]
def mixL (p : Int → Bool) : List Int → List S31 → List S31
  | m :: m' :: r, out => mixL p (m' :: r) (if p m = true then addM out m m' else out)
  | _, out => out
/-- rising, to the last of all -/
def riseM : Int → List Int → Prop
  | m, [] => m = 16384
  | m, m' :: r => m < m' ∧ m' ≤ 16384 ∧ riseM m' r
/-- between two marks nothing changes -/
def flatM (p : Int → Bool) : Int → List Int → Prop
  | _, [] => True
  | m, m' :: r => (∀ n, m ≤ n → n < m' → p n = p m) ∧ flatM p m' r
theorem addM_spec {out : List S31} {m m' : Int} (hm : mayS out) (hl : ∀ n, hasS out n = true → n < m) (h0 : 0 ≤ m) (h1 : m < m') (h2 : m' ≤ 16384) :
    mayS (addM out m m') ∧ ∀ n, hasS (addM out m m') n = (hasS out n || (decide (m ≤ n) && decide (n < m'))) := by
  have hd : ∀ n, (decide (m ≤ n) && decide (n ≤ m' - 1)) = (decide (m ≤ n) && decide (n < m')) := fun n => by
    congr 1; exact decide_eq_decide.2 (by omega)
  unfold addM
  rcases List.eq_nil_or_concat out with rfl | ⟨q, t, rfl⟩
  · refine ⟨⟨by show -1 < m; omega, by show m ≤ m' - 1; omega, by show m' - 1 ≤ 16383; omega, trivial⟩, fun n => ?_⟩
    show ((decide (m ≤ n) && decide (n ≤ m' - 1)) || false) = _
    rw [hd, Bool.or_false]; rfl
  · rw [List.concat_eq_append] at hm hl ⊢
    obtain ⟨m1, m2, m3, m4⟩ := mayF_app.1 hm
    have ht : t.f1 < m := hl t.f1 ((hasS_iff _ _).2 ⟨t, by simp, m3, Int.le_refl _⟩)
    rw [show (q ++ [t]).getLast? = some t by simp]
    dsimp only
    by_cases c : t.f1 = m - 1
    · rw [if_pos c, List.dropLast_concat]
      refine ⟨mayF_app.2 ⟨m1, m2, by show t.f0 ≤ m' - 1; omega, by show m' - 1 ≤ 16383; omega⟩, fun n => ?_⟩
      rw [hasS_app, hasS_app]
      show (hasS q n || ((decide (t.f0 ≤ n) && decide (n ≤ m' - 1)) || false)) = ((hasS q n || ((decide (t.f0 ≤ n) && decide (n ≤ t.f1)) || false)) || _)
      rw [Bool.or_false, Bool.or_false, Bool.or_assoc]
      congr 1
      rw [Bool.eq_iff_iff]
      simp only [Bool.or_eq_true, Bool.and_eq_true, decide_eq_true_eq]
      omega
    · rw [if_neg c]
      refine ⟨mayF_app.2 ⟨hm, by rw [endS_app]; show t.f1 + 1 < m; omega, by show m ≤ m' - 1; omega, by show m' - 1 ≤ 16383; omega⟩, fun n => ?_⟩
      rw [hasS_app (q ++ [t])]
      show (_ || ((decide (m ≤ n) && decide (n ≤ m' - 1)) || false)) = _
      rw [hd, Bool.or_false]
theorem mix_spec (p : Int → Bool) : ∀ (r : List Int) (m : Int) (out : List S31), 0 ≤ m → riseM m r → flatM p m r → mayS out → (∀ n, hasS out n = (decide (0 ≤ n) && decide (n < m) && p n)) →
    mayS (mixL p (m :: r) out) ∧ ∀ n, hasS (mixL p (m :: r) out) n = (decide (0 ≤ n) && decide (n < 16384) && p n)
  | [], m, out, _, hr, _, hm, hh => by
    obtain rfl : m = 16384 := hr
    exact ⟨hm, hh⟩
  | m' :: r, m, out, h0, ⟨h1, h2, h3⟩, ⟨g1, g2⟩, hm, hh => by
    rw [mixL]
    have hl : ∀ n, hasS out n = true → n < m := fun n h => by
      rw [hh] at h
      simp only [Bool.and_eq_true, decide_eq_true_eq] at h
      exact h.1.2
    have step : ∀ n, ((decide (0 ≤ n) && decide (n < m) && p n) || (decide (m ≤ n) && decide (n < m') && p m)) = (decide (0 ≤ n) && decide (n < m') && p n) := by
      intro n
      by_cases c : m ≤ n ∧ n < m'
      · rw [g1 n c.1 c.2, decide_eq_true c.1, decide_eq_true c.2, decide_eq_true (show 0 ≤ n by omega), decide_eq_false (show ¬ n < m by omega)]
        simp
      · have e : (decide (m ≤ n) && decide (n < m')) = false := by
          rw [Bool.and_eq_false_iff, decide_eq_false_iff_not, decide_eq_false_iff_not]; omega
        rw [e, Bool.false_and, Bool.or_false]
        by_cases c2 : n < m
        · rw [decide_eq_true c2, decide_eq_true (show n < m' by omega)]
        · rw [decide_eq_false c2, decide_eq_false (show ¬ n < m' by omega)]
    by_cases hp : p m = true
    · rw [if_pos hp]
      obtain ⟨a1, a2⟩ := addM_spec hm hl h0 h1 h2
      refine mix_spec p r m' _ (by omega) h3 g2 a1 fun n => ?_
      rw [a2, hh, ← step n, hp, Bool.and_true]
    · rw [if_neg hp]
      refine mix_spec p r m' _ (by omega) h3 g2 hm fun n => ?_
      rw [hh, ← step n, show p m = false by simpa using hp, Bool.and_false, Bool.or_false]
end Go.Proofs.YtnlakdpfkgjdaaaDoor.G

/- The reference's marks: what Mark and marks come to. Conditions: bounds on lengths. -/
namespace Go.Proofs.YtnlakdpfkgjdaaaDoor.G
open Go.RowKit Go.Cav Go.Proofs.YtnlakdpfkgjdaaaDoorW.PrintWords Go.Proofs.YtnlakdpfkgjdaaaDoorW.PrintLast Go.Proofs.YtnlakdpfkgjdaaaDoorW.PrintMore
/-- strictly rising -/
def upM : List Int → Prop
  | [] => True
  | [_] => True
  | a :: b :: r => a < b ∧ upM (b :: r)
theorem upM_tail {a : Int} {r : List Int} (h : upM (a :: r)) : upM r := by
  cases r with
  | nil => trivial
  | cons b r => exact h.2
theorem upM_lt : ∀ {r : List Int} {a : Int}, upM (a :: r) → ∀ x ∈ r, a < x
  | b :: r, a, h, x, hx => by
    rcases List.mem_cons.1 hx with rfl | hx
    · exact h.1
    · have := upM_lt h.2 x hx; have := h.1; omega
/-- a mark more, where it may be -/
def insM (x : Int) : List Int → List Int
  | [] => [x]
  | a :: r => if a < x then a :: insM x r else if a = x then a :: r else x :: a :: r
def markL (l : List Int) (x : Int) : List Int := if x < 0 ∨ x > 16384 then l else insM x l
theorem insM_mem (x y : Int) : ∀ l, y ∈ insM x l ↔ y = x ∨ y ∈ l
  | [] => by simp [insM]
  | a :: r => by
    unfold insM
    split
    · rw [List.mem_cons, insM_mem x y r, List.mem_cons]; constructor <;> rintro (h | h | h) <;> simp [h]
    · split
      · rename_i h; subst h; simp
      · simp
theorem insM_up (x : Int) : ∀ l, upM l → upM (insM x l)
  | [], _ => trivial
  | a :: r, h => by
    unfold insM
    split
    · rename_i hx
      have ih := insM_up x r (upM_tail h)
      cases hr : insM x r with
      | nil => trivial
      | cons b t =>
        rw [hr] at ih
        refine ⟨?_, ih⟩
        have hb : b ∈ insM x r := by rw [hr]; simp
        rcases (insM_mem x b r).1 hb with e | e
        · omega
        · exact upM_lt h b e
    · split
      · exact h
      · exact ⟨by omega, h⟩
theorem insM_len (x : Int) : ∀ l, (insM x l).length ≤ l.length + 1
  | [] => by simp [insM]
  | a :: r => by
    have := insM_len x r
    unfold insM
    split
    · simp; omega
    · split <;> simp
/-- .. by the place where it stands -/
theorem insM_at (x : Int) : ∀ (l : List Int) (i : Nat), upM l → i ≤ l.length → (∀ y ∈ l.take i, y < x) → (∀ y ∈ l.drop i, x ≤ y) → insM x l = if l[i]? = some x then l else l.take i ++ x :: l.drop i
  | [], i, _, hi, _, _ => by
    obtain rfl : i = 0 := by simpa using hi
    rfl
  | a :: r, 0, h, _, _, h2 => by
    have := h2 a (by simp)
    unfold insM
    rw [if_neg (by omega)]
    simp
  | a :: r, i + 1, h, hi, h1, h2 => by
    have ha := h1 a (by simp)
    have ih := insM_at x r i (upM_tail h) (by simpa using hi) (fun y hy => h1 y (by simp [hy])) (fun y hy => h2 y (by simpa using hy))
    unfold insM
    rw [if_pos ha, ih]
    simp only [List.getElem?_cons_succ, List.take_succ_cons, List.drop_succ_cons]
    split <;> rfl
def tailE (l : List Int) (x i : Int) : Option (List Int) :=
  if x < 0 then some l else if x > 16384 then some l else if i < (l.length : Int) then (if 0 ≤ i then (if rd l i = x then some l else (if i ≤ (l.length : Int) then (if ([] : List Int).length + (l.take i.toNat).length < 17592186044416 then (if ([] ++ l.take i.toNat : List Int).length < 17592186044416 then (if (([] ++ l.take i.toNat) ++ [x] : List Int).length + (l.drop i.toNat).length < 17592186044416 then some ((([] ++ l.take i.toNat) ++ [x]) ++ l.drop i.toNat) else none) else none) else none) else none)) else none)
  else (if 0 ≤ i then (if i ≤ (l.length : Int) then (if ([] : List Int).length + (l.take i.toNat).length < 17592186044416 then (if ([] ++ l.take i.toNat : List Int).length < 17592186044416 then (if (([] ++ l.take i.toNat) ++ [x] : List Int).length + (l.drop i.toNat).length < 17592186044416 then some ((([] ++ l.take i.toNat) ++ [x]) ++ l.drop i.toNat) else none) else none) else none) else none) else none)
theorem tail_ok (l : List Int) (x : Int) (hu : upM l) (hl : l.length ≤ 1000000000) (i : Nat) (hi : i ≤ l.length) (h1 : ∀ y ∈ l.take i, y < x) (h2 : ∀ y ∈ l.drop i, x ≤ y) : tailE l x (i : Int) = some (markL l x) := by
  unfold tailE markL
  by_cases c : x < 0
  · rw [if_pos c, if_pos (.inl c)]
  · rw [if_neg c]
    by_cases d : x > 16384
    · rw [if_pos d, if_pos (.inr d)]
    · rw [if_neg d, if_neg (show ¬ (x < 0 ∨ x > 16384) by omega), insM_at x l i hu hi h1 h2, Int.toNat_natCast]
      have s1 : ([] : List Int).length + (l.take i).length < 17592186044416 := by rw [List.length_take, List.length_nil]; omega
      have s2 : ([] ++ l.take i : List Int).length < 17592186044416 := by rw [List.nil_append, List.length_take]; omega
      have s3 : (([] ++ l.take i) ++ [x] : List Int).length + (l.drop i).length < 17592186044416 := by rw [List.nil_append, List.length_append, List.length_take, List.length_drop, List.length_singleton]; omega
      have e : (([] ++ l.take i) ++ [x]) ++ l.drop i = l.take i ++ x :: l.drop i := by simp
      by_cases f : i < l.length
      · rw [if_pos (show (i : Int) < (l.length : Int) by omega), if_pos (show (0 : Int) ≤ i by omega)]
        have er : rd l (i : Int) = l[i] := by unfold rd; rw [Int.toNat_natCast, List.getD_eq_getElem?_getD, List.getElem?_eq_getElem f]; rfl
        rw [er, List.getElem?_eq_getElem f]
        by_cases g : l[i] = x
        · rw [if_pos g, if_pos (by rw [g])]
        · rw [if_neg g, if_neg (fun h => g (Option.some.inj h)), if_pos (show (i : Int) ≤ (l.length : Int) by omega), if_pos s1, if_pos s2, if_pos s3, e]
      · rw [if_neg (show ¬ (i : Int) < (l.length : Int) by omega), if_pos (show (0 : Int) ≤ i by omega), if_pos (show (i : Int) ≤ (l.length : Int) by omega), if_pos s1, if_pos s2, if_pos s3, e, if_neg]
        rw [List.getElem?_eq_none (by omega)]; simp
theorem mark_loop (l : List Int) (x : Int) (hu : upM l) (hl : l.length ≤ 1000000000) : ∀ (i k : Nat), i ≤ l.length → (∀ y ∈ l.drop i, x ≤ y) → caravanref1_Mark.l0 (k + i + 1) l x (i : Int) = some (markL l x)
  | 0, k, hi, h2 => by
    rw [caravanref1_Mark.l0, if_neg (by omega)]
    exact tail_ok l x hu hl 0 hi (by simp) h2
  | i + 1, k, hi, h2 => by
    have hlt : i < l.length := by omega
    have ew : wrap64 (((i + 1 : Nat) : Int) - 1) = (i : Int) := by rw [w64 _ (by omega) (by omega)]; omega
    have er : rd l (i : Int) = l[i] := by unfold rd; rw [Int.toNat_natCast, List.getD_eq_getElem?_getD, List.getElem?_eq_getElem hlt]; rfl
    rw [show k + (i + 1) + 1 = (k + i + 1) + 1 by omega, caravanref1_Mark.l0, if_pos (by omega), ew, if_pos (by omega), if_pos (by omega), er]
    by_cases c : l[i] ≥ x
    · rw [if_pos c]
      refine mark_loop l x hu hl i k (by omega) fun y hy => ?_
      rw [List.drop_eq_getElem_cons hlt] at hy
      rcases List.mem_cons.1 hy with rfl | hy
      · exact c
      · exact h2 y hy
    · rw [if_neg c]
      refine tail_ok l x hu hl (i + 1) hi (fun y hy => ?_) h2
      obtain ⟨j, hj, rfl⟩ := List.getElem_of_mem hy
      rw [List.length_take] at hj
      rw [List.getElem_take]
      have key : ∀ (l : List Int), upM l → ∀ (a b : Nat) (ha : a < l.length) (hb : b < l.length), a ≤ b → l[a] ≤ l[b] := by
        intro l hu
        induction l with
        | nil => intro a b ha; simp at ha
        | cons q l ih =>
          intro a b ha hb hab
          cases a with
          | zero =>
            cases b with
            | zero => simp
            | succ b =>
              have hb' : b < l.length := by simpa using hb
              have := upM_lt hu l[b] (List.getElem_mem hb')
              simp; omega
          | succ a =>
            cases b with
            | zero => omega
            | succ b => simpa using ih (upM_tail hu) a b (by simpa using ha) (by simpa using hb) (by omega)
      have := key l hu j i (by omega) hlt (by omega)
      omega
theorem mark_f (l : List Int) (x : Int) (hu : upM l) (hl : l.length ≤ 1000000000) (k : Nat) (hk : l.length + 1 ≤ k) : caravanref1_Mark.f k l x = some (markL l x) := by
  obtain ⟨d, rfl⟩ : ∃ d, k = d + l.length + 1 := ⟨k - l.length - 1, by omega⟩
  exact mark_loop l x hu hl l.length d (Nat.le_refl _) (by simp)
theorem markL_up {l : List Int} (x : Int) (h : upM l) : upM (markL l x) := by unfold markL; split; exact h; exact insM_up x l h
theorem markL_len (l : List Int) (x : Int) : (markL l x).length ≤ l.length + 1 := by
  unfold markL
  split
  · omega
  · exact insM_len x l
theorem markL_mem (l : List Int) (x y : Int) : y ∈ markL l x ↔ y ∈ l ∨ (y = x ∧ 0 ≤ x ∧ x ≤ 16384) := by
  unfold markL
  split
  · exact ⟨.inl, fun h => h.elim id fun ⟨_, h1, h2⟩ => by omega⟩
  · rw [insM_mem]
    exact ⟨fun h => h.elim (fun e => .inr ⟨e, by omega, by omega⟩) .inl, fun h => h.elim .inr fun h => .inl h.1⟩
end Go.Proofs.YtnlakdpfkgjdaaaDoor.G

/- The reference's marks of lists of spans, and what its Mix says. No conditions. -/
namespace Go.Proofs.YtnlakdpfkgjdaaaDoor.G
open Go.RowKit Go.Cav Go.Proofs.YtnlakdpfkgjdaaaDoorW.PrintWords Go.Proofs.YtnlakdpfkgjdaaaDoorW.PrintLast Go.Proofs.YtnlakdpfkgjdaaaDoorW.PrintMore
/-- the marks of one span more -/
def mark1 (l : List Int) (x : S31) : List Int := if x.f0 ≤ x.f1 then (if x.f1 < 16384 then markL (markL l x.f0) (x.f1 + 1) else markL l x.f0) else l
def marksL (q : List S31) : List Int := q.foldl mark1 [0, 16384]
theorem mark1_up {l : List Int} (x : S31) (h : upM l) : upM (mark1 l x) := by
  unfold mark1
  split
  · split
    · exact markL_up _ (markL_up _ h)
    · exact markL_up _ h
  · exact h
theorem mark1_old {l : List Int} (x : S31) {y : Int} (h : y ∈ l) : y ∈ mark1 l x := by
  unfold mark1
  split
  · split
    · exact (markL_mem _ _ _).2 (.inl ((markL_mem _ _ _).2 (.inl h)))
    · exact (markL_mem _ _ _).2 (.inl h)
  · exact h
theorem mark1_in {l : List Int} (x : S31) (h : ∀ y ∈ l, 0 ≤ y ∧ y ≤ 16384) : ∀ y ∈ mark1 l x, 0 ≤ y ∧ y ≤ 16384 := by
  have key : ∀ (l : List Int) (v : Int), (∀ y ∈ l, 0 ≤ y ∧ y ≤ 16384) → ∀ y ∈ markL l v, 0 ≤ y ∧ y ≤ 16384 := fun l v h y hy => by
    rcases (markL_mem _ _ _).1 hy with e | ⟨rfl, e⟩
    · exact h y e
    · exact e
  unfold mark1
  split
  · split
    · exact key _ _ (key _ _ h)
    · exact key _ _ h
  · exact h
theorem mark1_len (l : List Int) (x : S31) : (mark1 l x).length ≤ l.length + 2 := by
  have a := markL_len l x.f0
  have b := markL_len (markL l x.f0) (x.f1 + 1)
  unfold mark1
  split
  · split <;> omega
  · omega
theorem mark1_new (l : List Int) (x : S31) (h : x.f0 ≤ x.f1) : (0 ≤ x.f0 → x.f0 ≤ 16384 → x.f0 ∈ mark1 l x) ∧ (0 ≤ x.f1 + 1 → x.f1 + 1 ≤ 16384 → x.f1 + 1 ∈ mark1 l x) := by
  unfold mark1
  rw [if_pos h]
  refine ⟨fun a b => ?_, fun a b => ?_⟩
  · split
    · exact (markL_mem _ _ _).2 (.inl ((markL_mem _ _ _).2 (.inr ⟨rfl, a, b⟩)))
    · exact (markL_mem _ _ _).2 (.inr ⟨rfl, a, b⟩)
  · rw [if_pos (by omega)]
    exact (markL_mem _ _ _).2 (.inr ⟨rfl, a, b⟩)
theorem marks_fold : ∀ (q : List S31) (l : List Int), upM l → (∀ y ∈ l, 0 ≤ y ∧ y ≤ 16384) → upM (q.foldl mark1 l) ∧ (∀ y ∈ q.foldl mark1 l, 0 ≤ y ∧ y ≤ 16384) ∧ (∀ y ∈ l, y ∈ q.foldl mark1 l) ∧ (q.foldl mark1 l).length ≤ l.length + 2 * q.length ∧
    ∀ s ∈ q, s.f0 ≤ s.f1 → (0 ≤ s.f0 → s.f0 ≤ 16384 → s.f0 ∈ q.foldl mark1 l) ∧ (0 ≤ s.f1 + 1 → s.f1 + 1 ≤ 16384 → s.f1 + 1 ∈ q.foldl mark1 l)
  | [], l, hu, hi => ⟨hu, hi, fun _ h => h, by simp, fun s h => by cases h⟩
  | x :: q, l, hu, hi => by
    obtain ⟨h1, h2, h3, h4, h5⟩ := marks_fold q (mark1 l x) (mark1_up x hu) (mark1_in x hi)
    rw [List.foldl_cons]
    have hl := mark1_len l x
    refine ⟨h1, h2, fun y hy => h3 y (mark1_old x hy), by rw [List.length_cons]; omega, fun s hs hle => ?_⟩
    rcases List.mem_cons.1 hs with rfl | hs
    · obtain ⟨a, b⟩ := mark1_new l s hle
      exact ⟨fun u v => h3 _ (a u v), fun u v => h3 _ (b u v)⟩
    · exact h5 s hs hle
theorem marks_spec (q : List S31) : upM (marksL q) ∧ (∀ y ∈ marksL q, 0 ≤ y ∧ y ≤ 16384) ∧ (0 : Int) ∈ marksL q ∧ (16384 : Int) ∈ marksL q ∧ (marksL q).length ≤ 2 + 2 * q.length ∧
    ∀ s ∈ q, s.f0 ≤ s.f1 → (0 ≤ s.f0 → s.f0 ≤ 16384 → s.f0 ∈ marksL q) ∧ (0 ≤ s.f1 + 1 → s.f1 + 1 ≤ 16384 → s.f1 + 1 ∈ marksL q) := by
  obtain ⟨h1, h2, h3, h4, h5⟩ := marks_fold q [0, 16384] ⟨by decide, trivial⟩ (fun y hy => by simp at hy; omega)
  exact ⟨h1, h2, h3 0 (by simp), h3 16384 (by simp), h4, h5⟩
/-- between two marks a list says one thing -/
theorem say_flat {a : List S31} {L : List Int} (hL : ∀ s ∈ a, s.f0 ≤ s.f1 → (0 ≤ s.f0 → s.f0 ≤ 16384 → s.f0 ∈ L) ∧ (0 ≤ s.f1 + 1 → s.f1 + 1 ≤ 16384 → s.f1 + 1 ∈ L)) {m n : Int} (h0 : 0 ≤ m) (h1 : m ≤ n) (h2 : n ≤ 16383)
    (hn : ∀ y ∈ L, ¬ (m < y ∧ y ≤ n)) : sayS a n = sayS a m := by
  have e : hasS a n = hasS a m := by
    rw [Bool.eq_iff_iff, hasS_iff, hasS_iff]
    constructor
    · rintro ⟨s, hs, a1, a2⟩
      refine ⟨s, hs, ?_, by omega⟩
      by_cases c : s.f0 ≤ m
      · exact c
      · exact absurd ⟨by omega, a1⟩ (hn _ ((hL s hs (by omega)).1 (by omega) (by omega)))
    · rintro ⟨s, hs, a1, a2⟩
      refine ⟨s, hs, by omega, ?_⟩
      by_cases c : n ≤ s.f1
      · exact c
      · exact absurd ⟨by omega, by omega⟩ (hn _ ((hL s hs (by omega)).2 (by omega) (by omega)))
  unfold sayS
  rw [e, decide_eq_true (show 0 ≤ n by omega), decide_eq_true h2, decide_eq_true h0, decide_eq_true (show m ≤ 16383 by omega)]
theorem rise_flat (p : Int → Bool) (L : List Int) (hL : ∀ y ∈ L, 0 ≤ y ∧ y ≤ 16384) (h4 : (16384 : Int) ∈ L) (hp : ∀ m n, 0 ≤ m → m ≤ n → n ≤ 16383 → (∀ y ∈ L, ¬ (m < y ∧ y ≤ n)) → p n = p m) :
    ∀ (r : List Int) (m : Int), upM (m :: r) → (∀ y ∈ m :: r, y ∈ L) → (∀ y ∈ L, y ≤ m ∨ y ∈ r) → riseM m r ∧ flatM p m r
  | [], m, _, h1, h2 => by
    have a := (hL m (h1 m (by simp))).2
    have b : (16384 : Int) ≤ m := (h2 _ h4).resolve_right (by simp)
    exact ⟨show m = 16384 by omega, trivial⟩
  | m' :: r, m, hu, h1, h2 => by
    have a := hL m (h1 m (by simp))
    have b := hL m' (h1 m' (by simp))
    obtain ⟨i1, i2⟩ := rise_flat p L hL h4 hp r m' (upM_tail hu) (fun y hy => h1 y (List.mem_cons_of_mem _ hy)) (fun y hy => by
      rcases h2 y hy with e | e
      · have := hu.1; exact .inl (by omega)
      · rcases List.mem_cons.1 e with rfl | e
        · exact .inl (Int.le_refl _)
        · exact .inr e)
    refine ⟨⟨hu.1, b.2, i1⟩, fun n k1 k2 => hp m n a.1 k1 (by omega) fun y hy ⟨c1, c2⟩ => ?_, i2⟩
    rcases h2 y hy with e | e
    · omega
    · rcases List.mem_cons.1 e with rfl | e
      · omega
      · have := upM_lt (upM_tail hu) y e; omega
/-- what is told of a slot: either, the first alone, both -/
def mixP (how : Int) (x y : Bool) : Bool := if how = 1 then x && !y else if how = 2 then x && y else x || y
def mixR (how : Int) (a b : List S31) : List S31 := mixL (fun n => mixP how (sayS a n) (sayS b n)) (marksL (a ++ b)) []
theorem mixR_spec (how : Int) (a b : List S31) : mayS (mixR how a b) ∧ ∀ n, hasS (mixR how a b) n = (decide (0 ≤ n) && decide (n < 16384) && mixP how (sayS a n) (sayS b n)) := by
  obtain ⟨h1, h2, h3, h4, _, h5⟩ := marks_spec (a ++ b)
  unfold mixR
  cases hm : marksL (a ++ b) with
  | nil => rw [hm] at h3; cases h3
  | cons m r =>
    rw [hm] at h1 h2 h3 h4 h5
    have hm0 : m = 0 := by
      have := (h2 m (by simp)).1
      rcases List.mem_cons.1 h3 with e | e
      · exact e.symm
      · have := upM_lt h1 0 e; omega
    subst hm0
    obtain ⟨g1, g2⟩ := rise_flat (fun n => mixP how (sayS a n) (sayS b n)) (0 :: r) h2 h4 (fun m n k0 k1 k2 k3 => by
      rw [say_flat (fun s hs => h5 s (List.mem_append_left _ hs)) k0 k1 k2 k3, say_flat (fun s hs => h5 s (List.mem_append_right _ hs)) k0 k1 k2 k3]) r 0 h1 (fun y hy => hy) (fun y hy => by
      rcases List.mem_cons.1 hy with rfl | e
      · exact .inl (Int.le_refl _)
      · exact .inr e)
    refine mix_spec _ r 0 [] (Int.le_refl _) g1 g2 trivial fun n => ?_
    rw [hasS_nil]
    by_cases c : 0 ≤ n
    · rw [decide_eq_false (show ¬ n < 0 by omega)]; simp
    · rw [decide_eq_false c]; simp
theorem mixR_say (how : Int) (a b : List S31) (n : Int) : sayS (mixR how a b) n = (decide (0 ≤ n) && decide (n ≤ 16383) && mixP how (sayS a n) (sayS b n)) := by
  rw [sayS_may (mixR_spec how a b).1, (mixR_spec how a b).2]
  congr 2
  exact decide_eq_decide.2 (by omega)
theorem sayS_app (a b : List S31) (n : Int) : sayS (a ++ b) n = (sayS a n || sayS b n) := by
  unfold sayS; rw [hasS_app]; cases decide (0 ≤ n) <;> cases decide (n ≤ 16383) <;> simp
theorem sayS_nil (n : Int) : sayS [] n = false := by unfold sayS; rw [hasS_nil, Bool.and_false]
/-- together -/
theorem mixR_or {how : Int} (h1 : how ≠ 1) (h2 : how ≠ 2) (a b : List S31) : mixR how a b = normS (a ++ b) := by
  refine norm_of (mixR_spec how a b).1 fun n => ?_
  rw [(mixR_spec how a b).2, sayS_app]
  unfold mixP
  rw [if_neg h1, if_neg h2]
  unfold sayS
  by_cases c : n < 16384
  · rw [decide_eq_true c, decide_eq_true (show n ≤ 16383 by omega)]
    cases decide (0 ≤ n) <;> simp
  · rw [decide_eq_false c, decide_eq_false (show ¬ n ≤ 16383 by omega)]
    cases decide (0 ≤ n) <;> simp
theorem mixR_norm (a : List S31) : mixR 0 a [] = normS a := by rw [mixR_or (by decide) (by decide), List.append_nil]
theorem mixL_len (p : Int → Bool) : ∀ (r out), (mixL p r out).length ≤ out.length + r.length
  | [], out => by unfold mixL; omega
  | [m], out => by unfold mixL; omega
  | m :: m' :: r, out => by
    rw [mixL]
    have ih := mixL_len p (m' :: r) (if p m = true then addM out m m' else out)
    have ha : (addM out m m').length ≤ out.length + 1 := by
      unfold addM
      rcases List.eq_nil_or_concat out with rfl | ⟨q, t, rfl⟩
      · simp
      · rw [List.concat_eq_append]; simp; split <;> simp
    split at ih
    · rw [if_pos ‹_›]; simp only [List.length_cons] at ih ⊢; omega
    · rw [if_neg ‹_›]; simp only [List.length_cons] at ih ⊢; omega
end Go.Proofs.YtnlakdpfkgjdaaaDoor.G

/- What the reference's functions on spans come to: MaySpans, Has, marks, Mix, Norm, SameSpans. Conditions: bounds on lengths. -/
namespace Go.Proofs.YtnlakdpfkgjdaaaDoor.G
open Go.RowKit Go.Pk Go.Cav Go.Proofs.YtnlakdpfkgjdaaaDoorW.PrintWords Go.Proofs.YtnlakdpfkgjdaaaDoorW.PrintLast Go.Proofs.YtnlakdpfkgjdaaaDoorW.PrintMore
theorem wj (j : Nat) (h : j ≤ 1000000000000000) : wrap64 ((j : Int) + 1) = ((j + 1 : Nat) : Int) := by rw [w64 _ (by omega) (by omega)]; omega
theorem rmay_loop (l : List S31) (hl : l.length ≤ 1000000000000) : ∀ n j, j + n = l.length → ∀ a : Int, (j = 0 → a = -1) → (∀ i, j = i + 1 → ∀ hi : i < l.length, a = l[i].f1 + 1) → -1 ≤ a → a ≤ 16384 →
    Ev (fun k => caravanref1_MaySpans.l0 k l (j : Int)) (decide (mayF a (l.drop j)))
  | 0, j, hj, a, _, _, _, _ => by
    refine Ev.next (f := fun _ => some true) (fun k => by rw [caravanref1_MaySpans.l0, if_neg (by omega)]) (Ev.const ?_)
    rw [List.drop_of_length_le (by omega)]
    exact congrArg some (decide_eq_true (p := mayF a []) trivial).symm
  | n + 1, j, hj, a, h0, h1, h2, h3 => by
    have hlt : j < l.length := by omega
    have ew := wj j (by omega)
    have hm : mayF a (l[j] :: l.drop (j + 1)) ↔ a < l[j].f0 ∧ l[j].f0 ≤ l[j].f1 ∧ l[j].f1 ≤ 16383 ∧ mayF (l[j].f1 + 1) (l.drop (j + 1)) := Iff.rfl
    rw [List.drop_eq_getElem_cons hlt]
    have no : ¬ mayF a (l[j] :: l.drop (j + 1)) → (∀ k, caravanref1_MaySpans.l0 (k + 1) l (j : Int) = some false) → Ev (fun k => caravanref1_MaySpans.l0 k l (j : Int)) (decide (mayF a (l[j] :: l.drop (j + 1)))) := fun hn hk =>
      Ev.next (f := fun _ => some false) hk (Ev.const (by rw [decide_eq_false hn]))
    have st : ∀ k, caravanref1_MaySpans.l0 (k + 1) l (j : Int) = (if l[j].f0 < 0 then (some false) else (if l[j].f1 < l[j].f0 then (some false) else (if l[j].f1 ≥ 16384 then (some false) else (if (j : Int) > 0 then (if 0 ≤ (wrap64 ((j : Int) - 1)) then (if (wrap64 ((j : Int) - 1)) < (l.length : Int) then (if l[j].f0 ≤ (wrap64 (((rd_T31 l (wrap64 ((j : Int) - 1))).f1) + 1)) then (some false) else (caravanref1_MaySpans.l0 k l ((j + 1 : Nat) : Int))) else (none)) else (none)) else (caravanref1_MaySpans.l0 k l ((j + 1 : Nat) : Int)))))) := fun k => by
      rw [caravanref1_MaySpans.l0, if_pos (by omega), if_pos (by omega), rd_at l j hlt, ew]
    by_cases c2 : l[j].f0 < 0
    · exact no (fun h => by have := (hm.1 h).1; omega) (fun k => by rw [st, if_pos c2])
    by_cases c3 : l[j].f1 < l[j].f0
    · exact no (fun h => by have := (hm.1 h).2.1; omega) (fun k => by rw [st, if_neg c2, if_pos c3])
    by_cases c4 : l[j].f1 ≥ 16384
    · exact no (fun h => by have := (hm.1 h).2.2.1; omega) (fun k => by rw [st, if_neg c2, if_neg c3, if_pos c4])
    have st2 : ∀ k, caravanref1_MaySpans.l0 (k + 1) l (j : Int) = if l[j].f0 ≤ a then some false else caravanref1_MaySpans.l0 k l ((j + 1 : Nat) : Int) := fun k => by
      rw [st, if_neg c2, if_neg c3, if_neg c4]
      cases j with
      | zero => rw [if_neg (by omega), if_neg (by rw [h0 rfl]; omega)]
      | succ i =>
        have hi : i < l.length := by omega
        have e1 : wrap64 (((i + 1 : Nat) : Int) - 1) = (i : Int) := by rw [w64 _ (by omega) (by omega)]; omega
        have e2 := h1 i rfl hi
        rw [if_pos (by omega), e1, if_pos (by omega), if_pos (by omega), rd_at l i hi, w64 _ (by omega) (by omega), ← e2]
    by_cases c1 : l[j].f0 ≤ a
    · exact no (fun h => by have := (hm.1 h).1; omega) (fun k => by rw [st2, if_pos c1])
    · refine Ev.next (fun k => by rw [st2, if_neg c1]) (Ev.same (rmay_loop l hl n (j + 1) (by omega) (l[j].f1 + 1) (by omega) (fun i e hi => by cases e; rfl) (by omega) (by omega)) ?_)
      exact decide_eq_decide.2 ⟨fun h => hm.2 ⟨by omega, by omega, by omega, h⟩, fun h => (hm.1 h).2.2.2⟩
theorem rmay_ev (l : List S31) (hl : l.length ≤ 1000000000000) : Ev (fun k => caravanref1_MaySpans.f k l) (mayB l) :=
  rmay_loop l hl l.length 0 (by omega) (-1) (fun _ => rfl) (fun i e => by cases e) (by omega) (by omega)
theorem rhas_loop (l : List S31) (hl : l.length ≤ 1000000000000) (x : Int) : ∀ n j, j + n = l.length → Ev (fun k => caravanref1_Has.l0 k l x (j : Int)) (sayS (l.drop j) x)
  | 0, j, hj => by
    refine Ev.next (f := fun _ => some false) (fun k => by rw [caravanref1_Has.l0, if_neg (by omega)]) (Ev.const ?_)
    rw [List.drop_of_length_le (by omega), sayS_nil]
  | n + 1, j, hj => by
    have hlt : j < l.length := by omega
    have ew := wj j (by omega)
    have ih := rhas_loop l hl x n (j + 1) (by omega)
    rw [List.drop_eq_getElem_cons hlt]
    have e : sayS (l[j] :: l.drop (j + 1)) x = ((decide (0 ≤ x) && decide (x ≤ 16383) && (decide (l[j].f0 ≤ x) && decide (x ≤ l[j].f1))) || sayS (l.drop (j + 1)) x) := by
      unfold sayS; rw [hasS_cons]; cases decide (0 ≤ x) <;> cases decide (x ≤ 16383) <;> simp
    by_cases c : x ≥ 0 ∧ x < 16384 ∧ l[j].f0 ≤ x ∧ x ≤ l[j].f1
    · refine Ev.next (f := fun _ => some true) (fun k => by rw [caravanref1_Has.l0, if_pos (by omega), if_pos c.1, if_pos c.2.1, if_pos (by omega), rd_at l j hlt, if_pos c.2.2.1, if_pos c.2.2.2]) (Ev.const ?_)
      rw [e, decide_eq_true (show 0 ≤ x by omega), decide_eq_true (show x ≤ 16383 by omega), decide_eq_true c.2.2.1, decide_eq_true c.2.2.2]; rfl
    · refine Ev.next (fun k => ?_) (Ev.same ih ?_)
      · rw [caravanref1_Has.l0, if_pos (by omega), if_pos (show (0 : Int) ≤ j by omega), rd_at l j hlt, ew]
        by_cases c1 : x ≥ 0
        · rw [if_pos c1]
          by_cases c2 : x < 16384
          · rw [if_pos c2]
            by_cases c3 : l[j].f0 ≤ x
            · rw [if_pos c3, if_neg (fun c4 => c ⟨c1, c2, c3, c4⟩)]
            · rw [if_neg c3]
          · rw [if_neg c2]
        · rw [if_neg c1]
      · rw [e]
        have : (decide (0 ≤ x) && decide (x ≤ 16383) && (decide (l[j].f0 ≤ x) && decide (x ≤ l[j].f1))) = false := by
          rw [Bool.eq_false_iff]
          simp only [ne_eq, Bool.and_eq_true, decide_eq_true_eq]
          omega
        rw [this, Bool.false_or]
theorem rhas_ev (l : List S31) (hl : l.length ≤ 1000000000000) (x : Int) : Ev (fun k => caravanref1_Has.f k l x) (sayS l x) := rhas_loop l hl x l.length 0 (by omega)
theorem mark_ev (l : List Int) (x : Int) (hu : upM l) (hl : l.length ≤ 1000000000) : Ev (fun k => caravanref1_Mark.f k l x) (markL l x) := ⟨l.length + 1, fun k hk => mark_f l x hu hl k hk⟩
theorem marks_loop (a b : List S31) (ha : a.length ≤ 100000000) (hb : b.length ≤ 100000000) (hw : ∀ s ∈ a ++ b, -9223372036854775808 ≤ s.f1) : ∀ n i, i + n = a.length + b.length → ∀ l, upM l → l.length ≤ 2 + 2 * i → Ev (fun k => caravanref1_marks.l0 k a b l (i : Int)) (((a ++ b).drop i).foldl mark1 l)
  | 0, i, hi, l, hu, hl => by
    have e : wrap64 ((a.length : Int) + (b.length : Int)) = (a.length : Int) + (b.length : Int) := w64 _ (by omega) (by omega)
    refine Ev.next (f := fun _ => some l) (fun k => by rw [caravanref1_marks.l0, e, if_neg (by omega)]) (Ev.const ?_)
    rw [List.drop_of_length_le (by rw [List.length_append]; omega)]; rfl
  | n + 1, i, hi, l, hu, hl => by
    have e : wrap64 ((a.length : Int) + (b.length : Int)) = (a.length : Int) + (b.length : Int) := w64 _ (by omega) (by omega)
    have hlt : i < (a ++ b).length := by rw [List.length_append]; omega
    have ew := wj i (by omega)
    rw [List.drop_eq_getElem_cons hlt, List.foldl_cons]
    have hwx := hw (a ++ b)[i] (List.getElem_mem hlt)
    generalize hx : (a ++ b)[i] = x at hwx
    have ih := marks_loop a b ha hb hw n (i + 1) (by omega) (mark1 l x) (mark1_up x hu) (by have := mark1_len l x; omega)
    have hj : Ev (fun k => caravanref1_marks.j1 k a b l (i : Int) x.f0 x.f1) (((a ++ b).drop (i + 1)).foldl mark1 (mark1 l x)) := by
      unfold mark1 at ih ⊢
      by_cases c : x.f0 ≤ x.f1
      · rw [if_pos c] at ih ⊢
        have k1 := mark_ev l x.f0 hu (by omega)
        by_cases d : x.f1 < 16384
        · rw [if_pos d] at ih ⊢
          have hl1 := markL_len l x.f0
          have k2 := mark_ev (markL l x.f0) (x.f1 + 1) (markL_up _ hu) (by omega)
          refine Ev.next (f := fun k => (caravanref1_Mark.f k l x.f0).bind fun t => (caravanref1_Mark.f k t (x.f1 + 1)).bind fun u => caravanref1_marks.l0 k a b u ((i + 1 : Nat) : Int)) (fun k => ?_) (Ev.seq k1 (Ev.seq k2 ih))
          rw [caravanref1_marks.j1, if_pos c, ew]
          congr 1
          funext t
          rw [if_pos d]
          rw [w64 _ (by omega) (by omega)]
        · rw [if_neg d] at ih ⊢
          refine Ev.next (f := fun k => (caravanref1_Mark.f k l x.f0).bind fun t => caravanref1_marks.l0 k a b t ((i + 1 : Nat) : Int)) (fun k => ?_) (Ev.seq k1 ih)
          rw [caravanref1_marks.j1, if_pos c, ew]
          congr 1
          funext t
          rw [if_neg d]
      · rw [if_neg c] at ih ⊢
        exact Ev.next (fun k => by rw [caravanref1_marks.j1, if_neg c, ew]) ih
    refine Ev.next (fun k => ?_) hj
    rw [caravanref1_marks.l0, e, if_pos (by omega)]
    by_cases c : i < a.length
    · have ex : rd_T31 a (i : Int) = x := by rw [rd_at a i c, ← hx, List.getElem_append_left c]
      rw [if_pos (by omega), if_pos (by omega), ex]
    · have e1 : wrap64 ((i : Int) - (a.length : Int)) = ((i - a.length : Nat) : Int) := by rw [w64 _ (by omega) (by omega)]; omega
      have ex : rd_T31 b ((i - a.length : Nat) : Int) = x := by rw [rd_at b (i - a.length) (by omega), ← hx, List.getElem_append_right (by omega)]
      rw [if_neg (by omega), e1, if_pos (by omega), if_pos (by omega), ex]
theorem marks_ev (a b : List S31) (ha : a.length ≤ 100000000) (hb : b.length ≤ 100000000) (hw : ∀ s ∈ a ++ b, -9223372036854775808 ≤ s.f1) : Ev (fun k => caravanref1_marks.f k a b) (marksL (a ++ b)) :=
  Ev.same (marks_loop a b ha hb hw (a.length + b.length) 0 (by omega) [0, 16384] ⟨by decide, trivial⟩ (by simp)) (by rw [List.drop_zero]; rfl)
theorem addM_len (out : List S31) (m m' : Int) : (addM out m m').length ≤ out.length + 1 := by
  unfold addM
  rcases List.eq_nil_or_concat out with rfl | ⟨q, t, rfl⟩
  · simp
  · rw [List.concat_eq_append]; simp; split <;> simp
theorem rd_int (m : List Int) (i : Nat) (h : i < m.length) : rd m (i : Int) = m[i] := by unfold rd; rw [Int.toNat_natCast, List.getD_eq_getElem?_getD, List.getElem?_eq_getElem h]; rfl
theorem mix_loop (how : Int) (a b : List S31) (ha : a.length ≤ 100000000) (hb : b.length ≤ 100000000) (m : List Int) (hm : ∀ y ∈ m, 0 ≤ y ∧ y ≤ 16384) (hml : m.length ≤ 1000000000) :
    ∀ n i, i + n = m.length → ∀ out : List S31, out.length ≤ i → Ev (fun k => caravanref1_Mix.l0 k how a b m out (i : Int)) (mixL (fun n => mixP how (sayS a n) (sayS b n)) (m.drop i) out)
  | 0, i, hi, out, ho => by
    have ew := wj i (by omega)
    refine Ev.next (f := fun _ => some out) (fun k => by rw [caravanref1_Mix.l0, ew, if_neg (by omega)]) (Ev.const ?_)
    rw [List.drop_of_length_le (by omega)]; rfl
  | 1, i, hi, out, ho => by
    have ew := wj i (by omega)
    refine Ev.next (f := fun _ => some out) (fun k => by rw [caravanref1_Mix.l0, ew, if_neg (by omega)]) (Ev.const ?_)
    rw [List.drop_eq_getElem_cons (by omega), List.drop_of_length_le (by omega)]; rfl
  | n + 2, i, hi, out, ho => by
    have ew := wj i (by omega)
    have h1 : i < m.length := by omega
    have h2 : i + 1 < m.length := by omega
    have r1 := rd_int m i h1
    have r2 := rd_int m (i + 1) h2
    have b1 := hm m[i] (List.getElem_mem h1)
    have b2 := hm m[i + 1] (List.getElem_mem h2)
    rw [List.drop_eq_getElem_cons h1, List.drop_eq_getElem_cons h2, mixL, ← List.drop_eq_getElem_cons h2]
    have ih := mix_loop how a b ha hb m hm hml (n + 1) (i + 1) (by omega) (if mixP how (sayS a m[i]) (sayS b m[i]) = true then addM out m[i] m[i + 1] else out) (by have := addM_len out m[i] m[i + 1]; split <;> omega)
    generalize hx : m[i] = x at *
    generalize hy : m[i + 1] = y at *
    have e1 : wrap64 (x - 1) = x - 1 := w64 _ (by omega) (by omega)
    have e2 : wrap64 (y - 1) = y - 1 := w64 _ (by omega) (by omega)
    have j2 : Ev (fun k => caravanref1_Mix.j2 k how a b m out (i : Int) (mixP how (sayS a x) (sayS b x))) (mixL (fun n => mixP how (sayS a n) (sayS b n)) (m.drop (i + 1)) (if mixP how (sayS a x) (sayS b x) = true then addM out x y else out)) := by
      generalize mixP how (sayS a x) (sayS b x) = q at ih ⊢
      refine Ev.next (fun k => ?_) ih
      rw [caravanref1_Mix.j2, ew, r1, r2, e1, e2]
      cases q with
      | false => rw [if_neg (by decide), if_neg (by decide)]
      | true =>
        rw [if_pos rfl, if_pos rfl]
        unfold addM
        rcases List.eq_nil_or_concat out with rfl | ⟨q, t, rfl⟩
        · rw [if_neg (by simp), if_pos (by omega), if_pos (by omega), if_pos (by omega), if_pos (by omega), if_pos (by simp)]; rfl
        · rw [List.concat_eq_append] at ho ⊢
          have hq : (q ++ [t]).length = q.length + 1 := by simp
          have f1 : wrap64 (((q ++ [t]).length : Int) - 1) = (q.length : Int) := by rw [hq, w64 _ (by omega) (by omega)]; omega
          have f2 : rd_T31 (q ++ [t]) (q.length : Int) = t := by rw [rd_at _ _ (by rw [hq]; omega)]; simp
          rw [show (q ++ [t]).getLast? = some t by simp, if_pos (by rw [hq]; omega), f1, if_pos (by omega), if_pos (by rw [hq]; omega), if_pos (by omega), if_pos (by omega), f2]
          dsimp only
          by_cases c : t.f1 = x - 1
          · rw [if_pos c, if_pos c, if_pos (by omega), if_pos (by omega), Int.toNat_natCast, step_set, List.dropLast_concat]
          · rw [if_neg c, if_neg c, if_pos (by omega), if_pos (by omega), if_pos (by rw [hq]; omega)]
    have j1 : Ev (fun k => caravanref1_Mix.j1 k how a b m out (i : Int) (sayS a x) (sayS b x) (sayS a x || sayS b x)) (mixL (fun n => mixP how (sayS a n) (sayS b n)) (m.drop (i + 1)) (if mixP how (sayS a x) (sayS b x) = true then addM out x y else out)) := by
      refine Ev.next (fun k => ?_) j2
      rw [caravanref1_Mix.j1]
      unfold mixP
      by_cases c1 : how = 1
      · rw [if_pos c1, if_pos c1]; cases sayS a x <;> rfl
      · rw [if_neg c1, if_neg c1]
        by_cases c2 : how = 2
        · rw [if_pos c2, if_pos c2]; cases sayS a x <;> rfl
        · rw [if_neg c2, if_neg c2]
    have ka := rhas_ev a (by omega) x
    have kb := rhas_ev b (by omega) x
    refine Ev.next (f := fun k => (caravanref1_Has.f k a x).bind fun t => (caravanref1_Has.f k b x).bind fun u => if t = true then caravanref1_Mix.j1 k how a b m out (i : Int) t u true else caravanref1_Mix.j1 k how a b m out (i : Int) t u u) (fun k => ?_) (Ev.seq ka (Ev.seq kb (Ev.fn (fun k => ?_) j1)))
    · rw [caravanref1_Mix.l0, ew, r1, if_pos (by omega), if_pos (by omega), if_pos (by omega)]
    · cases sayS a x with
      | true => rw [if_pos rfl, Bool.true_or]
      | false => rw [if_neg (by decide), Bool.false_or]
theorem mix_ev (how : Int) (a b : List S31) (ha : a.length ≤ 100000000) (hb : b.length ≤ 100000000) (hw : ∀ s ∈ a ++ b, -9223372036854775808 ≤ s.f1) : Ev (fun k => caravanref1_Mix.f k how a b) (mixR how a b) := by
  have hs := marks_spec (a ++ b)
  have hl := hs.2.2.2.2.1
  rw [List.length_append] at hl
  exact Ev.seq (marks_ev a b ha hb hw) (mix_loop how a b ha hb (marksL (a ++ b)) hs.2.1 (by omega) (marksL (a ++ b)).length 0 (by omega) [] (by simp))
theorem rnorm_ev (a : List S31) (ha : a.length ≤ 100000000) (hw : ∀ s ∈ a, -9223372036854775808 ≤ s.f1) : Ev (fun k => caravanref1_Norm.f k a) (normS a) :=
  Ev.seq (mix_ev 0 a [] ha (by simp) (by simpa using hw)) (Ev.const (congrArg some (mixR_norm a)))
theorem same_loop (a b : List S31) (ha : a.length ≤ 1000000000000) (he : a.length = b.length) : ∀ n j, j + n = a.length → Ev (fun k => caravanref1_SameSpans.l0 k a b (j : Int)) (decide (a.drop j = b.drop j))
  | 0, j, hj => by
    refine Ev.next (f := fun _ => some true) (fun k => by rw [caravanref1_SameSpans.l0, if_neg (by omega)]) (Ev.const ?_)
    rw [List.drop_of_length_le (by omega), List.drop_of_length_le (by omega)]; rfl
  | n + 1, j, hj => by
    have h1 : j < a.length := by omega
    have h2 : j < b.length := by omega
    have ew := wj j (by omega)
    have ih := same_loop a b ha he n (j + 1) (by omega)
    have st : ∀ k, caravanref1_SameSpans.l0 (k + 1) a b (j : Int) = if (!(a[j].f0 == b[j].f0) || (!(a[j].f1 == b[j].f1))) = true then some false else caravanref1_SameSpans.l0 k a b ((j + 1 : Nat) : Int) := fun k => by
      rw [caravanref1_SameSpans.l0, if_pos (by omega), if_pos (by omega), if_pos (by omega), rd_at a j h1, rd_at b j h2, ew]
    rw [List.drop_eq_getElem_cons h1, List.drop_eq_getElem_cons h2]
    by_cases c : a[j] = b[j]
    · refine Ev.next (fun k => by rw [st, if_neg (by rw [c]; simp)]) (Ev.same ih (dec_yes c _ _))
    · refine Ev.next (f := fun _ => some false) (fun k => by
        rw [st, if_pos]
        rw [Bool.or_eq_true, Bool.not_eq_true', Bool.not_eq_true', beq_eq_false_iff_ne, beq_eq_false_iff_ne]
        by_cases d : a[j].f0 = b[j].f0
        · refine .inr fun e => c ?_
          cases hA : a[j]; cases hB : b[j]
          rw [hA, hB] at d e
          simp only at d e; rw [d, e]
        · exact .inl d) (Ev.const (congrArg some (dec_no c _ _)))
theorem same_ev (a b : List S31) (ha : a.length ≤ 1000000000000) : Ev (fun k => caravanref1_SameSpans.f k a b) (decide (a = b)) := by
  by_cases c : a.length = b.length
  · exact Ev.fn (fun k => by unfold caravanref1_SameSpans.f; rw [if_pos (by omega)]; rfl) (Ev.same (same_loop a b ha c a.length 0 (by omega)) (by rw [List.drop_zero, List.drop_zero]))
  · exact Ev.fn (f := fun _ => some false) (fun k => by unfold caravanref1_SameSpans.f; rw [if_neg (by omega)]) (Ev.const (by rw [decide_eq_false (fun e => c (by rw [e]))]))
end Go.Proofs.YtnlakdpfkgjdaaaDoor.G

/- Plain laws about decimal numerals. No conditions. -/
namespace Go.Proofs.YtnlakdpfkgjdaaaDoor.Pure
open Go.RowKit Go.Pk Go.Proofs.YtnlakdpfkgjdaaaDoor.G Go.Proofs.YtnlakdpfkgjdaaaDoorW.PrintWords Go.Proofs.YtnlakdpfkgjdaaaDoorW.PrintLast
open Go.Lib (decDigits itoa atoiAll parseMag parseUint10)

def dstr (n : Int) : ByteArray := ⟨(itoa n).toArray⟩
def dd (u : Nat) : ByteArray := ⟨(decDigits u).toArray⟩
theorem dd_toList (u : Nat) : (dd u).toList = decDigits u := by rw [toList_data]; rfl
theorem dstr_toList (n : Int) : (dstr n).toList = itoa n := by rw [toList_data]; rfl
theorem dstr_data (n : Int) : (dstr n).data.toList = itoa n := rfl
def fin (x0 : Int) (s : ByteArray) : ByteArray := if x0 < 0 then ⟨#[45]⟩ ++ s else s
theorem one_size (n : Int) : (strOfNums [n]).size = 1 := by rw [strOfNums_size]; rfl
theorem one_toList (n : Int) : (strOfNums [n]).toList = [UInt8.ofNat n.toNat] := by rw [toList_data, strOfNums_data]; rfl
theorem small_eq (u : Nat) (h : u < 10) (acc : ByteArray) : strOfNums [(IntKind.u64.wrap (48 + (u : Int))) % 256] ++ acc = dd u ++ acc := by
  refine toList_inj ?_
  rw [toList_append, toList_append, one_toList, dd_toList, decDigits, dif_pos h, u64w]
  congr 3
  omega
theorem l0_small (x0 : Int) (k u : Nat) (h : u < 10) (acc : ByteArray) (ha : acc.size ≤ 1000) : caravanref1_Digits.l0 (k + 1) x0 (u : Int) acc = some (fin x0 (dd u ++ acc)) := by
  unfold caravanref1_Digits.l0
  rw [if_neg (by omega)]
  simp only [Option.bind_some]
  rw [if_pos (by rw [one_size]; omega), small_eq u h acc]
  have hs : (dd u ++ acc).size ≤ 1001 := by
    rw [← small_eq u h acc, ByteArray.size_append, one_size]; omega
  unfold fin
  split
  · rw [if_pos (by omega)]
  · rfl
theorem l0_spec (x0 : Int) : ∀ (m u : Nat), u < 10 ^ (m + 1) → u < 18446744073709551616 → ∀ (acc : ByteArray) (k : Nat), acc.size + m ≤ 1000 → caravanref1_Digits.l0 (k + (m + 1)) x0 (u : Int) acc = some (fin x0 (dd u ++ acc))
  | 0, u, h, _, acc, k, ha => l0_small x0 k u (by simpa using h) acc (by omega)
  | m + 1, u, h, hu, acc, k, ha => by
    by_cases hs : u < 10
    · exact l0_small x0 (k + (m + 1)) u hs acc (by omega)
    · have ih := l0_spec x0 m (u / 10) (by rw [Nat.pow_succ] at h; omega) (by omega)
      show caravanref1_Digits.l0 ((k + (m + 1)) + 1) x0 (u : Int) acc = _
      unfold caravanref1_Digits.l0
      rw [if_pos (by omega)]
      simp only [Option.bind_some]
      rw [if_pos (by rw [one_size]; omega)]
      have e1 : IntKind.u64.wrap (Int.tdiv (u : Int) 10) = ((u / 10 : Nat) : Int) := by
        rw [u64w, Int.tdiv_eq_ediv_of_nonneg (by omega)]; omega
      have e2 : Int.tmod (u : Int) 10 = ((u % 10 : Nat) : Int) := by
        rw [Int.tmod_eq_emod_of_nonneg (by omega)]; omega
      rw [e1, e2, ih _ k (by rw [ByteArray.size_append, one_size]; omega)]
      congr 2
      refine toList_inj ?_
      rw [toList_append, toList_append, toList_append, one_toList, dd_toList, dd_toList]
      conv => rhs; rw [decDigits, dif_neg hs]
      rw [List.append_assoc, u64w]
      congr 4
      omega
theorem dd_size (u : Nat) (h : u < 18446744073709551616) : (dd u).size ≤ 20 := by
  have e : (dd u).size = (decDigits u).length := by rw [← toList_length, dd_toList]
  rw [e, Lib.decDigits_length]; exact Lib.nDigits_le20 u h
theorem dstr_size (n : Int) (h0 : -9223372036854775808 ≤ n) (h1 : n ≤ 9223372036854775807) : (dstr n).size ≤ 21 := by
  have e : (dstr n).size = (itoa n).length := by rw [← toList_length, dstr_toList]
  rw [e]; exact Lib.itoa_length_le n h0 h1
theorem append_nil (s : ByteArray) : s ++ (⟨#[]⟩ : ByteArray) = s := toList_inj (by rw [toList_append]; simp [toList_data])
theorem digits_eq (n : Int) (h0 : -9223372036854775808 ≤ n) (h1 : n ≤ 9223372036854775807) (k : Nat) : caravanref1_Digits.f (k + 21) n = some (dstr n) := by
  unfold caravanref1_Digits.f
  have key : ∀ u : Nat, u < 18446744073709551616 → caravanref1_Digits.j0 (k + 21) n (u : Int) (⟨#[]⟩ : ByteArray) = some (fin n (dd u)) := fun u hu => by
    show caravanref1_Digits.l0 (k + (19 + 1)) n (u : Int) _ = _
    rw [l0_spec n 19 u (by omega) hu _ k (by show 0 + 19 ≤ 1000; omega), append_nil]
  by_cases hn : n < 0
  · rw [if_pos hn]
    have e : IntKind.u64.wrap (-(IntKind.u64.wrap n)) = ((n.natAbs : Nat) : Int) := by rw [u64w, u64w]; omega
    rw [e, key _ (by omega)]
    congr 1
    refine toList_inj ?_
    unfold fin
    rw [if_pos hn, toList_append, dd_toList, dstr_toList]
    unfold itoa
    rw [if_pos hn]
    simp [toList_data]
  · rw [if_neg hn]
    have e : IntKind.u64.wrap n = ((n.toNat : Nat) : Int) := by rw [u64w]; omega
    rw [e, key _ (by omega)]
    congr 1
    refine toList_inj ?_
    unfold fin
    rw [if_neg hn, dd_toList, dstr_toList]
    unfold itoa
    rw [if_neg hn]

theorem dec_digit (u : Nat) : ∀ c ∈ decDigits u, 48 ≤ c.toNat ∧ c.toNat ≤ 57 := by
  induction u using Nat.strongRecOn with
  | _ u ih =>
    intro c hc
    rw [decDigits] at hc
    split at hc
    · rename_i h
      rw [List.mem_singleton.1 hc, UInt8.toNat_ofNat']; omega
    · rename_i h
      rcases List.mem_append.1 hc with h' | h'
      · exact ih (u / 10) (by omega) c h'
      · rw [List.mem_singleton.1 h', UInt8.toNat_ofNat']; omega
theorem dec_ne (u : Nat) : decDigits u ≠ [] := by
  rw [decDigits]; split <;> simp
theorem parse_dec (u : Nat) : u < 18446744073709551616 → ∀ r, parseUint10 0 (decDigits u ++ r) = parseUint10 u r := by
  induction u using Nat.strongRecOn with
  | _ u ih =>
    intro hu r
    rw [decDigits]
    split
    · rename_i h
      rw [List.singleton_append]
      have e : (UInt8.ofNat (48 + u)).toNat = 48 + u := by rw [UInt8.toNat_ofNat']; omega
      rw [parseUint10, if_pos (by rw [e]; omega), if_neg (by omega), if_neg (by rw [e]; omega), e]
      congr 1; omega
    · rename_i h
      have e : (UInt8.ofNat (48 + u % 10)).toNat = 48 + u % 10 := by rw [UInt8.toNat_ofNat']; omega
      rw [List.append_assoc, ih (u / 10) (by omega) (by omega), List.singleton_append, parseUint10, if_pos (by rw [e]; omega), if_neg (by omega), if_neg (by rw [e]; omega), e]
      congr 1; omega
theorem mag_dec (u : Nat) (h : u < 18446744073709551616) : parseMag (decDigits u) = .ok u := by
  have := parse_dec u h []
  rw [List.append_nil] at this
  unfold parseMag
  rw [if_neg (dec_ne u), this]; rfl
theorem atoi_itoa (n : Int) (h0 : -9223372036854775808 ≤ n) (h1 : n ≤ 9223372036854775807) : atoiAll (itoa n) = .ok n := by
  by_cases hn : n < 0
  · have e : itoa n = 45 :: decDigits n.natAbs := by unfold itoa; rw [if_pos hn]
    rw [e, Lib.atoiAll_minus, mag_dec _ (by omega)]
    simp only [Lib.signed]
    rw [if_neg (by omega)]
    congr 1; omega
  · have e : itoa n = decDigits n.toNat := by unfold itoa; rw [if_neg hn]
    rw [e]
    cases hd : decDigits n.toNat with
    | nil => exact absurd hd (dec_ne _)
    | cons c r =>
      have hc := dec_digit n.toNat c (by rw [hd]; simp)
      rw [Lib.atoiAll_plain c r (by omega) (by omega), ← hd, mag_dec _ (by omega)]
      simp only [Lib.signless]
      rw [if_neg (by omega)]
      congr 1; omega
theorem numP_dstr (n : Int) (h0 : -9223372036854775808 ≤ n) (h1 : n ≤ 9223372036854775807) : numP (dstr n) = some n := by
  unfold numP
  rw [dstr_data, atoi_itoa n h0 h1]
  exact if_pos rfl
theorem numP_none (s : ByteArray) (h : ∀ v, itoa v ≠ s.toList) : numP s = none := by
  unfold numP
  split
  · rename_i v _
    rw [if_neg (by rw [← toList_data]; exact h v)]
  · rfl
theorem itoa_chars (v : Int) : ∀ c ∈ itoa v, c.toNat = 45 ∨ 48 ≤ c.toNat ∧ c.toNat ≤ 57 := by
  intro c hc
  unfold itoa at hc
  split at hc
  · rcases List.mem_cons.1 hc with rfl | h
    · exact .inl rfl
    · exact .inr (dec_digit _ c h)
  · exact .inr (dec_digit _ c hc)
theorem dec_zero (u : Nat) : ∀ r, decDigits u = 48 :: r → r = [] := by
  induction u using Nat.strongRecOn with
  | _ u ih =>
    intro r hr
    rw [decDigits] at hr
    split at hr
    · injection hr with _ e; exact e.symm
    · rename_i h
      cases hd : decDigits (u / 10) with
      | nil => exact absurd hd (dec_ne _)
      | cons c t =>
        rw [hd, List.cons_append] at hr
        injection hr with e1 e2
        subst e1
        obtain rfl := ih (u / 10) (by omega) t hd
        have hz : u / 10 = 0 := by
          rw [decDigits] at hd
          split at hd
          · rename_i h10
            injection hd with e _
            have := congrArg UInt8.toNat e
            rw [UInt8.toNat_ofNat'] at this
            have e48 : (48 : UInt8).toNat = 48 := rfl
            rw [e48] at this
            omega
          · rename_i h10
            have hl := congrArg List.length hd
            rw [List.length_append, List.length_singleton, List.length_singleton] at hl
            have := List.length_pos_iff.2 (dec_ne (u / 10 / 10))
            omega
        omega
theorem itoa_ne (v : Int) : itoa v ≠ [] := by
  unfold itoa; split
  · simp
  · exact dec_ne _
theorem itoa_zero (v : Int) (r : List UInt8) (h : itoa v = 48 :: r) : r = [] := by
  unfold itoa at h
  split at h
  · injection h with e _; cases e
  · exact dec_zero _ r h
theorem itoa_minus (v : Int) (r : List UInt8) (h : itoa v = 45 :: r) : ∃ u, decDigits u = r := by
  unfold itoa at h
  split at h
  · injection h with _ e; exact ⟨_, e⟩
  · have := dec_digit v.toNat 45 (by rw [h]; simp)
    have e45 : (45 : UInt8).toNat = 45 := rfl
    omega
end Go.Proofs.YtnlakdpfkgjdaaaDoor.Pure

/- What spans.Read makes of texts of one, two or three pieces. No conditions. -/
namespace Go.Proofs.YtnlakdpfkgjdaaaDoor.Pure
open Go.RowKit Go.Pk Go.Cav Go.Proofs.YtnlakdpfkgjdaaaDoor.G Go.Proofs.YtnlakdpfkgjdaaaDoorW.PrintWords Go.Proofs.YtnlakdpfkgjdaaaDoorW.PrintLast
open Go.Lib (decDigits itoa atoiAll parseMag parseUint10)
/-- a text of bytes -/
def bs (l : List UInt8) : ByteArray := ⟨l.toArray⟩
theorem bs_data (l : List UInt8) : (bs l).data.toList = l := rfl
theorem of_data (s : ByteArray) : bs s.data.toList = s := by cases s; rfl
/-- the number that Atoi makes of a text -/
def aO (l : List UInt8) : Option Int := match atoiAll l with | .ok v => some v | _ => none
theorem aO_bs (l : List UInt8) : atoiO (bs l) = (aO l).isSome ∧ ∀ v, aO l = some v → atoiV (bs l) = v := by
  unfold atoiO atoiV aO
  rw [bs_data]
  cases atoiAll l with
  | ok v => exact ⟨rfl, fun w h => Option.some.inj h⟩
  | «syntax» => exact ⟨rfl, fun w h => by cases h⟩
  | range => exact ⟨rfl, fun w h => by cases h⟩
theorem cut_free {l : List UInt8} (h : (45 : UInt8) ∉ l) : Lib.cut l [45] = (l, [], false) := by
  have h1 := cutAt_free 45 l h
  rcases cut_index 45 l with ⟨h2, _⟩ | ⟨i, _, _, h3⟩
  · unfold Lib.cut; rw [h2]; rfl
  · rw [h1] at h3
    have := congrArg List.length h3
    have h4 := List.length_pos_iff.2 (cutAt_ne 45 (l.drop (i + 1)))
    rw [List.length_cons, List.length_cons, List.length_nil] at this; omega
theorem cut_at {x : List UInt8} (y : List UInt8) (h : (45 : UInt8) ∉ x) : Lib.cut (x ++ 45 :: y) [45] = (x, y, true) := by
  have h1 := cutAt_app 45 y x h
  rcases cut_index 45 (x ++ 45 :: y) with ⟨_, h3⟩ | ⟨i, h2, h4, h3⟩
  · rw [h1] at h3
    have := congrArg List.length h3
    have h4 := List.length_pos_iff.2 (cutAt_ne 45 y)
    rw [List.length_cons, List.length_cons, List.length_nil] at this; omega
  · rw [h1] at h3
    have e := (List.cons.inj h3).1
    have el := congrArg List.length e
    rw [List.length_take] at el
    have : i = x.length := by omega
    subst this
    unfold Lib.cut
    rw [h2, if_pos (by omega)]
    simp
theorem one_free {l : List UInt8} (h : (45 : UInt8) ∉ l) : oneP (bs l) = (aO l).map fun v => ⟨v, v⟩ := by
  obtain ⟨h1, h2⟩ := aO_bs l
  have e1 : cut1 (bs l) = bs l := by unfold cut1; rw [bs_data, cut_free h]; rfl
  have e2 : cutH (bs l) = false := by unfold cutH; rw [bs_data, cut_free h]
  unfold oneP
  rw [e1, e2, h1]
  cases ha : aO l with
  | none => rw [if_neg (by simp)]; rfl
  | some v => rw [if_pos (by simp), h2 v ha]; rfl
theorem one_at {x : List UInt8} (y : List UInt8) (h : (45 : UInt8) ∉ x) : oneP (bs (x ++ 45 :: y)) = (aO x).bind fun v => (aO y).map fun u => ⟨v, u⟩ := by
  obtain ⟨h1, h2⟩ := aO_bs x
  obtain ⟨g1, g2⟩ := aO_bs y
  have e1 : cut1 (bs (x ++ 45 :: y)) = bs x := by unfold cut1; rw [bs_data, cut_at y h]; rfl
  have e3 : cut2 (bs (x ++ 45 :: y)) = bs y := by unfold cut2; rw [bs_data, cut_at y h]; rfl
  have e2 : cutH (bs (x ++ 45 :: y)) = true := by unfold cutH; rw [bs_data, cut_at y h]
  unfold oneP
  rw [e1, e2, e3, h1, g1]
  cases ha : aO x with
  | none => rw [if_neg (by simp)]; rfl
  | some v =>
    cases hb : aO y with
    | none => rw [if_neg (by simp)]; rfl
    | some u => rw [if_pos (by simp), h2 v ha, g2 u hb]; rfl
/-- a number's digits -/
def D (n : Int) : List UInt8 := itoa n
theorem D_eq {n : Int} (h : 0 ≤ n) : D n = decDigits n.toNat := by unfold D itoa; rw [if_neg (by omega)]
theorem D_digit {n : Int} (h : 0 ≤ n) : ∀ c ∈ D n, 48 ≤ c.toNat ∧ c.toNat ≤ 57 := by rw [D_eq h]; exact dec_digit _
theorem D_no {n : Int} (h : 0 ≤ n) {c : UInt8} (hc : c.toNat < 48) : c ∉ D n := fun e => by have := D_digit h c e; omega
theorem D_ne (n : Int) : D n ≠ [] := itoa_ne n
theorem aO_D {n : Int} (h0 : 0 ≤ n) (h1 : n ≤ 100000) : aO (D n) = some n := by unfold aO D; rw [atoi_itoa n (by omega) (by omega)]
theorem aO_bad {n : Int} (h0 : 0 ≤ n) (h1 : n ≤ 100000) {c : UInt8} (r : List UInt8) (hc : c.toNat < 48) : aO (D n ++ c :: r) = none := by
  unfold aO
  rw [D_eq h0]
  cases hd : decDigits n.toNat with
  | nil => exact absurd hd (dec_ne _)
  | cons b t =>
    have hb := dec_digit n.toNat b (by rw [hd]; simp)
    rw [List.cons_append, Lib.atoiAll_plain b _ (by omega) (by omega), ← List.cons_append, ← hd]
    unfold parseMag
    rw [if_neg (by simp [dec_ne]), parse_dec _ (by omega), parseUint10, if_neg (by omega)]
    rfl
theorem aO_zero {n : Int} (h0 : 0 ≤ n) (h1 : n ≤ 100000) : aO (48 :: D n) = some n := by
  have e := aO_D h0 h1
  unfold aO at e ⊢
  rw [D_eq h0] at e ⊢
  rw [Lib.atoiAll_plain 48 _ (by decide) (by decide)]
  unfold parseMag
  rw [if_neg (by simp), parseUint10, if_pos (by decide), if_neg (by omega), if_neg (by decide)]
  have := parse_dec n.toNat (by omega) []
  rw [List.append_nil] at this
  rw [show 0 * 10 + ((48 : UInt8).toNat - 48) = 0 from rfl, this, parseUint10]
  simp only [Lib.signless]
  rw [if_neg (by omega)]
  exact congrArg some (by omega)
/-- a span's text -/
def pc (s : S31) : List UInt8 := if s.f1 > s.f0 then D s.f0 ++ 45 :: D s.f1 else D s.f0
theorem oneS_pc (s : S31) : oneS s = bs (pc s) := by
  unfold oneS pc
  split
  · apply ByteArray.ext
    simp [bs, itoaB, D, ByteArray.data_append]
  · rfl
/-- a span that may be -/
def okP (s : S31) : Prop := 0 ≤ s.f0 ∧ s.f0 ≤ s.f1 ∧ s.f1 ≤ 100000
theorem one_pc {s : S31} (h : okP s) : oneP (bs (pc s)) = some s := by
  obtain ⟨h0, h1, h2⟩ := h
  unfold pc
  split
  · rw [one_at _ (D_no h0 (by decide)), aO_D h0 (by omega), aO_D (by omega) h2]; rfl
  · rw [one_free (D_no h0 (by decide)), aO_D h0 (by omega)]
    have : s.f1 = s.f0 := by omega
    cases s
    simp at this ⊢
    exact this.symm
theorem pc_no {s : S31} (h : okP s) : (44 : UInt8) ∉ pc s := by
  obtain ⟨h0, h1, h2⟩ := h
  unfold pc
  split
  · intro e
    rcases List.mem_append.1 e with e | e
    · exact D_no h0 (by decide) e
    · rcases List.mem_cons.1 e with e | e
      · cases e
      · exact D_no (by omega) (by decide) e
  · exact D_no h0 (by decide)
theorem cutB_bs (l : List UInt8) : cutB (bs l) = (cutAt 44 l).map bs := rfl
end Go.Proofs.YtnlakdpfkgjdaaaDoor.Pure

/- What spans.Read makes of a text of two spans, and of texts near it. No conditions. -/
namespace Go.Proofs.YtnlakdpfkgjdaaaDoor.Pure
open Go.RowKit Go.Pk Go.Cav Go.Proofs.YtnlakdpfkgjdaaaDoor.G Go.Proofs.YtnlakdpfkgjdaaaDoorW.PrintWords Go.Proofs.YtnlakdpfkgjdaaaDoorW.PrintLast
theorem bs_app (l m : List UInt8) : bs l ++ bs m = bs (l ++ m) := by
  apply ByteArray.ext
  simp [bs, ByteArray.data_append]
theorem bs_inj {l m : List UInt8} (h : bs l = bs m) : l = m := by
  have := congrArg (fun s : ByteArray => s.data.toList) h
  exact this
theorem bs_len {l m : List UInt8} (h : l.length ≠ m.length) : bs l ≠ bs m := fun e => h (by rw [bs_inj e])
theorem rl_some {p : List UInt8} {s : S31} (h : oneP (bs p) = some s) (r : List ByteArray) : readL (bs p :: r) = s :: readL r := by rw [readL, h]
theorem rl_none {p : List UInt8} (h : oneP (bs p) = none) (r : List ByteArray) : readL (bs p :: r) = [] := by rw [readL, h]
theorem cutB_app {p : List UInt8} (h : (44 : UInt8) ∉ p) (y : List UInt8) : cutB (bs (p ++ 44 :: y)) = bs p :: cutB (bs y) := by rw [cutB_bs, cutAt_app 44 y p h]; rfl
theorem cutB_free {p : List UInt8} (h : (44 : UInt8) ∉ p) : cutB (bs p) = [bs p] := by rw [cutB_bs, cutAt_free 44 p h]; rfl
theorem textS_of {l : List S31} (h : mayS l) : textS l = bs (Lib.join (l.map pc) [44]) := by
  unfold textS joinB
  rw [norm_idem h]
  have e : (l.map oneS).map (fun x : ByteArray => x.data.toList) = l.map pc := by
    rw [List.map_map]
    exact List.map_congr_left fun s _ => by show (oneS s).data.toList = _; rw [oneS_pc]; rfl
  exact congrArg (fun q => (⟨(Lib.join q [44]).toArray⟩ : ByteArray)) e
theorem readP_no {s : ByteArray} {l : List S31} (h : readL (cutB s) = l) (hn : mayS l → textS l ≠ s) : readP s = ([], false) := by
  unfold readP
  rw [h, if_neg]
  rintro ⟨h1, h2⟩
  have hm : mayF (-1) l := of_decide_eq_true h1
  exact hn hm h2
theorem readP_yes {s : ByteArray} {l : List S31} (h : readL (cutB s) = l) (hm : mayS l) (ht : textS l = s) : readP s = (l, true) := by
  unfold readP
  have hb : mayB l = true := decide_eq_true (p := mayF (-1) l) hm
  rw [h, if_pos ⟨hb, ht⟩]
theorem text0 : textS [] = bs [] := by rw [textS_of (l := []) trivial]; rfl
theorem one_empty : oneP (bs []) = none := by rw [one_free (by simp)]; rfl
theorem pc_bad {s : S31} (h : okP s) {c : UInt8} (hc : c.toNat < 48) (hc4 : c ≠ 44) : oneP (bs (pc s ++ [c])) = none ∧ (44 : UInt8) ∉ pc s ++ [c] := by
  refine ⟨?_, fun e => ?_⟩
  · obtain ⟨h0, h1, h2⟩ := h
    unfold pc
    split
    · rw [List.append_assoc, List.cons_append, one_at _ (D_no h0 (by decide)), aO_D h0 (by omega), aO_bad (by omega) h2 [] hc]; rfl
    · by_cases h45 : c = 45
      · subst h45
        rw [one_at [] (D_no h0 (by decide)), aO_D h0 (by omega)]; rfl
      · rw [one_free (fun e => ?_), aO_bad h0 (by omega) [] hc]; · rfl
        rcases List.mem_append.1 e with e | e
        · exact D_no h0 (by decide) e
        · exact h45 (List.mem_singleton.1 e).symm
  · rcases List.mem_append.1 e with e | e
    · exact pc_no h e
    · exact hc4 (List.mem_singleton.1 e).symm
/-- two pieces that are spans, but may not be -/
theorem bad_two {x y : S31} (hx : okP x) (hy : okP y) (hn : ¬ (x.f1 + 1 < y.f0 ∧ y.f1 ≤ 16383)) : readP (bs (pc x ++ 44 :: pc y)) = ([], false) := by
  refine readP_no (l := [x, y]) ?_ fun hm => ?_
  · rw [cutB_app (pc_no hx), cutB_free (pc_no hy), rl_some (one_pc hx), rl_some (one_pc hy)]; rfl
  · exact absurd ⟨hm.2.2.2.1, hm.2.2.2.2.2.1⟩ hn
section
variable {u v : S31} (hu : okP u) (hv : okP v) (huv : u.f1 + 1 < v.f0) (hvm : v.f1 ≤ 16383)
include hu hv huv hvm
theorem may2 : mayS [u, v] := ⟨by have := hu.1; omega, hu.2.1, by have := hv.2.1; omega, huv, hv.2.1, hvm, trivial⟩
theorem may1 : mayS [u] := ⟨by have := hu.1; omega, hu.2.1, by have := hv.2.1; omega, trivial⟩
theorem text2 : textS [u, v] = bs (pc u ++ 44 :: pc v) := by rw [textS_of (may2 hu hv huv hvm)]; simp [Lib.join]
theorem text1 : textS [u] = bs (pc u) := by rw [textS_of (may1 hu hv huv hvm)]; simp [Lib.join]
theorem good : readP (bs (pc u ++ 44 :: pc v)) = ([u, v], true) := by
  refine readP_yes ?_ (may2 hu hv huv hvm) (text2 hu hv huv hvm)
  rw [cutB_app (pc_no hu), cutB_free (pc_no hv), rl_some (one_pc hu), rl_some (one_pc hv)]; rfl
theorem bad0 : readP (bs ((pc u ++ 44 :: pc v) ++ [44])) = ([], false) := by
  refine readP_no (l := [u, v]) ?_ fun _ => ?_
  · rw [List.append_assoc, List.cons_append, cutB_app (pc_no hu), cutB_app (pc_no hv), cutB_free (by simp), rl_some (one_pc hu), rl_some (one_pc hv), rl_none (one_empty)]
  · rw [text2 hu hv huv hvm]; exact bs_len (by simp)
omit hu hv huv hvm in
theorem bad1 : readP (bs (44 :: (pc u ++ 44 :: pc v))) = ([], false) := by
  refine readP_no (l := []) ?_ fun _ => ?_
  · rw [show (44 : UInt8) :: (pc u ++ 44 :: pc v) = [] ++ 44 :: (pc u ++ 44 :: pc v) from rfl, cutB_app (by simp), rl_none (one_empty)]
  · rw [text0]; exact bs_len (by simp)
theorem bad2 {c : UInt8} (hc : c.toNat < 48) (hc4 : c ≠ 44) : readP (bs ((pc u ++ 44 :: pc v) ++ [c])) = ([], false) := by
  obtain ⟨h1, h2⟩ := pc_bad hv hc hc4
  refine readP_no (l := [u]) ?_ fun _ => ?_
  · rw [List.append_assoc, List.cons_append, cutB_app (pc_no hu), cutB_free h2, rl_some (one_pc hu), rl_none h1]
  · rw [text1 hu hv huv hvm]; exact bs_len (by simp)
theorem bad6 : readP (bs (48 :: (pc u ++ 44 :: pc v))) = ([], false) := by
  refine readP_no (l := [u, v]) ?_ fun _ => ?_
  · have h : oneP (bs (48 :: pc u)) = some u := by
      obtain ⟨h0, h1, h2⟩ := hu
      have n45 : (45 : UInt8) ∉ 48 :: D u.f0 := fun e => by
        rcases List.mem_cons.1 e with e | e
        · cases e
        · exact D_no h0 (by decide) e
      unfold pc
      split
      · rw [← List.cons_append, one_at _ n45, aO_zero h0 (by omega), aO_D (by omega) h2]; rfl
      · rw [one_free n45, aO_zero h0 (by omega)]
        have : u.f1 = u.f0 := by omega
        cases u
        simp at this ⊢
        exact this.symm
    have n44 : (44 : UInt8) ∉ 48 :: pc u := fun e => by
      rcases List.mem_cons.1 e with e | e
      · cases e
      · exact pc_no hu e
    rw [← List.cons_append, cutB_app n44, cutB_free (pc_no hv), rl_some h, rl_some (one_pc hv)]; rfl
  · rw [text2 hu hv huv hvm]; exact bs_len (by simp)
omit hv huv hvm in
theorem bad9 : readP (bs (pc u ++ [45, 45, 53])) = ([], false) := by
  have n44 : (44 : UInt8) ∉ pc u ++ [45, 45, 53] := fun e => by
    rcases List.mem_append.1 e with e | e
    · exact pc_no hu e
    · revert e; decide
  obtain ⟨h0, h1, h2⟩ := hu
  by_cases c : u.f1 > u.f0
  · refine readP_no (l := []) ?_ fun _ => ?_
    · have e : pc u = D u.f0 ++ 45 :: D u.f1 := by unfold pc; rw [if_pos c]
      rw [cutB_free n44, e]
      refine rl_none ?_ _
      rw [List.append_assoc, List.cons_append, one_at _ (D_no h0 (by decide)), aO_D h0 (by omega), aO_bad (by omega) h2 _ (by decide)]; rfl
    · rw [text0]; exact bs_len (by simp)
  · refine readP_no (l := [⟨u.f0, -5⟩]) ?_ fun hm => ?_
    · have e : pc u = D u.f0 := by unfold pc; rw [if_neg c]
      rw [cutB_free n44, e, rl_some (s := ⟨u.f0, -5⟩)]
      · rfl
      · have e5 : aO [45, 53] = some (-5) := by decide
        rw [one_at _ (D_no h0 (by decide)), aO_D h0 (by omega), e5]; rfl
    · have h7 : u.f0 ≤ -5 := hm.2.1
      omega
theorem bad10 : readP (bs (D u.f0 ++ 45 :: D u.f0)) = ([], false) := by
  have w : okP ⟨u.f0, u.f0⟩ := ⟨hu.1, Int.le_refl _, by have := hu.2.1; have := hu.2.2; show u.f0 ≤ _; omega⟩
  have hm : mayS [⟨u.f0, u.f0⟩] := ⟨by have := hu.1; show -1 < u.f0; omega, Int.le_refl _, by have := hu.2.1; have := hv.2.1; show u.f0 ≤ _; omega, trivial⟩
  have hpc : pc ⟨u.f0, u.f0⟩ = D u.f0 := by unfold pc; rw [if_neg (by simp)]
  refine readP_no (l := [⟨u.f0, u.f0⟩]) ?_ fun _ => ?_
  · rw [cutB_free, rl_some (s := ⟨u.f0, u.f0⟩)]
    · rfl
    · rw [one_at _ (D_no hu.1 (by decide)), aO_D hu.1 w.2.2]; rfl
    · intro e
      rcases List.mem_append.1 e with e | e
      · exact D_no hu.1 (by decide) e
      · rcases List.mem_cons.1 e with e | e
        · cases e
        · exact D_no hu.1 (by decide) e
  · rw [textS_of hm, show Lib.join ([⟨u.f0, u.f0⟩].map pc) [44] = D u.f0 by rw [← hpc]; simp [Lib.join]]
    exact bs_len (by simp)
end
theorem bad11 : readP ⟨#[120]⟩ = ([], false) := by decide +kernel
end Go.Proofs.YtnlakdpfkgjdaaaDoor.Pure

/- What the reference's reading makes of a list's text, and what the program's pieces do. No conditions. -/
namespace Go.Proofs.YtnlakdpfkgjdaaaDoor.Pure
open Go.RowKit Go.Pk Go.Cav Go.Proofs.YtnlakdpfkgjdaaaDoor.G Go.Proofs.YtnlakdpfkgjdaaaDoorW.PrintWords Go.Proofs.YtnlakdpfkgjdaaaDoorW.PrintLast
open Go.Lib (decDigits)
/-- a span that was read: from an earlier number, or of one slot -/
def spanR (n f : Int) : S31 := ⟨if f < 0 then n else f, n⟩
/-- the reference's reading: a number so far; the number ahead of a sign (below 0: none); how many digits; what was read -/
def rdL : List UInt8 → Int → Int → Int → List S31 → Option (List S31)
  | [], n, f, dg, out => if dg > 0 then some (out ++ [spanR n f]) else none
  | c :: r, n, f, dg, out =>
    if 48 ≤ c.toNat ∧ c.toNat ≤ 57 ∧ n < 16384 then rdL r (10 * n + ((c.toNat : Int) - 48)) f (dg + 1) out
    else if c.toNat = 45 ∧ f < 0 ∧ dg > 0 then rdL r 0 n 0 out
    else if c.toNat = 44 ∧ dg > 0 then rdL r 0 (-1) 0 (out ++ [spanR n f])
    else none
theorem rdL_dec (u : Nat) : u ≤ 16383 → ∀ r f out, rdL (decDigits u ++ r) 0 f 0 out = rdL r u f ((decDigits u).length : Int) out := by
  induction u using Nat.strongRecOn with
  | _ u ih =>
    intro hu r f out
    rw [decDigits]
    split
    · rename_i h
      have e : (UInt8.ofNat (48 + u)).toNat = 48 + u := by rw [UInt8.toNat_ofNat']; omega
      rw [List.singleton_append, rdL, if_pos ⟨by omega, by omega, by decide⟩, e]
      have e2 : 10 * (0 : Int) + (((48 + u : Nat) : Int) - 48) = (u : Int) := by omega
      rw [e2]; rfl
    · rename_i h
      have e : (UInt8.ofNat (48 + u % 10)).toNat = 48 + u % 10 := by rw [UInt8.toNat_ofNat']; omega
      rw [List.append_assoc, ih (u / 10) (by omega) (by omega), List.singleton_append, rdL, if_pos ⟨by omega, by omega, by omega⟩, e]
      have e2 : 10 * ((u / 10 : Nat) : Int) + (((48 + u % 10 : Nat) : Int) - 48) = (u : Int) := by omega
      rw [e2, List.length_append, List.length_singleton]
      congr 1
theorem rdL_D {n : Int} (h0 : 0 ≤ n) (h1 : n ≤ 16383) (r : List UInt8) (f : Int) (out : List S31) : ∃ d : Int, d > 0 ∧ rdL (D n ++ r) 0 f 0 out = rdL r n f d out := by
  refine ⟨((decDigits n.toNat).length : Int), ?_, ?_⟩
  · have := List.length_pos_iff.2 (dec_ne n.toNat); omega
  · rw [D_eq h0, rdL_dec n.toNat (by omega) r f out, Int.toNat_of_nonneg h0]
theorem rdL_pc {s : S31} (h0 : 0 ≤ s.f0) (h1 : s.f0 ≤ s.f1) (h2 : s.f1 ≤ 16383) (r : List UInt8) (out : List S31) : ∃ d f : Int, d > 0 ∧ spanR s.f1 f = s ∧ rdL (pc s ++ r) 0 (-1) 0 out = rdL r s.f1 f d out := by
  unfold pc
  split
  · obtain ⟨d, hd, e⟩ := rdL_D h0 (by omega) (45 :: (D s.f1 ++ r)) (-1) out
    obtain ⟨d2, hd2, e2⟩ := rdL_D (n := s.f1) (by omega) h2 r s.f0 out
    refine ⟨d2, s.f0, hd2, by unfold spanR; rw [if_neg (by omega)], ?_⟩
    rw [List.append_assoc, List.cons_append, e, rdL, if_neg (by rintro ⟨h, _⟩; revert h; decide), if_pos ⟨by decide, by decide, hd⟩, e2]
  · obtain ⟨d, hd, e⟩ := rdL_D h0 (by omega) r (-1) out
    have e1 : s.f1 = s.f0 := by omega
    refine ⟨d, -1, hd, by unfold spanR; rw [if_pos (by decide), e1]; cases s; simp at e1; subst e1; rfl, ?_⟩
    rw [e, e1]
theorem join2 (a b : List UInt8) (l : List (List UInt8)) : Lib.join (a :: b :: l) [44] = a ++ 44 :: Lib.join (b :: l) [44] := by simp [Lib.join, List.intercalate]
theorem join1 (a : List UInt8) : Lib.join [a] [44] = a := by simp [Lib.join, List.intercalate]
theorem rdL_join : ∀ (l : List S31) (s : S31) (out : List S31), (∀ x ∈ s :: l, 0 ≤ x.f0 ∧ x.f0 ≤ x.f1 ∧ x.f1 ≤ 16383) → rdL (Lib.join ((s :: l).map pc) [44]) 0 (-1) 0 out = some (out ++ s :: l)
  | [], s, out, h => by
    obtain ⟨h0, h1, h2⟩ := h s (by simp)
    obtain ⟨d, f, hd, hs, e⟩ := rdL_pc h0 h1 h2 [] out
    rw [List.map_cons, List.map_nil, join1]
    rw [List.append_nil] at e
    rw [e, rdL, if_pos hd, hs]
  | t :: l, s, out, h => by
    obtain ⟨h0, h1, h2⟩ := h s (by simp)
    obtain ⟨d, f, hd, hs, e⟩ := rdL_pc h0 h1 h2 (44 :: Lib.join ((t :: l).map pc) [44]) out
    have ih := rdL_join l t (out ++ [s]) (fun x hx => h x (List.mem_cons_of_mem _ hx))
    rw [List.map_cons, List.map_cons, join2, ← List.map_cons, e, rdL, if_neg (by rintro ⟨h, _⟩; revert h; decide), if_neg (by rintro ⟨h, _⟩; revert h; decide), if_pos ⟨by decide, hd⟩, hs, ih]
    simp
theorem cut_join : ∀ (l : List S31) (s : S31), (∀ x ∈ s :: l, okP x) → readL (cutB (bs (Lib.join ((s :: l).map pc) [44]))) = s :: l
  | [], s, h => by
    have hs := h s (by simp)
    rw [List.map_cons, List.map_nil, join1, cutB_free (pc_no hs), rl_some (one_pc hs)]; rfl
  | t :: l, s, h => by
    have hs := h s (by simp)
    have ih := cut_join l t (fun x hx => h x (List.mem_cons_of_mem _ hx))
    rw [List.map_cons, List.map_cons, join2, ← List.map_cons, cutB_app (pc_no hs), rl_some (one_pc hs), ih]
/-- what the reference makes of a whole text -/
def rdS (s : List UInt8) : Option (List S31) := if s = [] then some [] else rdL s 0 (-1) 0 []
theorem join_ne (l : List S31) (s : S31) (h : okP s) : Lib.join ((s :: l).map pc) [44] ≠ [] := by
  have hp : pc s ≠ [] := by
    unfold pc
    split
    · exact fun e => D_ne s.f0 (List.append_eq_nil_iff.1 e).1
    · exact D_ne s.f0
  cases l with
  | nil => rw [List.map_cons, List.map_nil, join1]; exact hp
  | cons t l => rw [List.map_cons, List.map_cons, join2]; exact fun e => hp (List.append_eq_nil_iff.1 e).1
/-- both read a list's text -/
theorem read_text {l : List S31} (h : mayS l) : readL (cutB (textS l)) = l ∧ rdS (textS l).data.toList = some l := by
  rw [textS_of h, bs_data]
  cases l with
  | nil => exact ⟨by decide +kernel, rfl⟩
  | cons s l =>
    have hin := mayF_in h (Int.le_refl _)
    have hok : ∀ x ∈ s :: l, okP x := fun x hx => ⟨(hin x hx).1, (hin x hx).2.1, by have := (hin x hx).2.2; omega⟩
    refine ⟨cut_join l s hok, ?_⟩
    unfold rdS
    rw [if_neg (join_ne l s (hok s (by simp))), rdL_join l s [] hin]; rfl
/-- the reference's whole answer -/
def refR (s : ByteArray) : List S31 × Bool :=
  match rdS s.data.toList with
  | none => ([], false)
  | some l => if mayB l = true ∧ textS l = s then (l, true) else ([], false)
theorem mayB_iff (l : List S31) : mayB l = true ↔ mayS l := decide_eq_true_iff (p := mayF (-1) l)
theorem ref_read (s : ByteArray) : refR s = readP s := by
  by_cases hex : ∃ l, mayS l ∧ textS l = s
  · obtain ⟨l, hm, rfl⟩ := hex
    obtain ⟨h1, h2⟩ := read_text hm
    rw [readP_yes h1 hm rfl]
    unfold refR
    rw [h2]
    exact if_pos ⟨(mayB_iff l).2 hm, rfl⟩
  · have e1 : readP s = ([], false) := by
      unfold readP
      rw [if_neg]
      rintro ⟨h1, h2⟩
      exact hex ⟨_, (mayB_iff _).1 h1, h2⟩
    rw [e1]
    unfold refR
    split
    · rfl
    · rw [if_neg]
      rintro ⟨h1, h2⟩
      exact hex ⟨_, (mayB_iff _).1 h1, h2⟩
/-- how far numbers go -/
theorem rdL_grow {c : UInt8} (hc : c.toNat ≤ 57) {n : Int} (h : n < 16384) (h0 : 0 ≤ n) (h1 : 48 ≤ c.toNat) : 0 ≤ 10 * n + ((c.toNat : Int) - 48) ∧ 10 * n + ((c.toNat : Int) - 48) ≤ 163849 := by omega
end Go.Proofs.YtnlakdpfkgjdaaaDoor.Pure

/- What the reference's Count, SpanText, ReadSpans come to. Conditions: bounds on lengths. -/
namespace Go.Proofs.YtnlakdpfkgjdaaaDoor.Pure
open Go.RowKit Go.Pk Go.Cav Go.Proofs.YtnlakdpfkgjdaaaDoor.G Go.Proofs.YtnlakdpfkgjdaaaDoorW.PrintWords Go.Proofs.YtnlakdpfkgjdaaaDoorW.PrintLast Go.Proofs.YtnlakdpfkgjdaaaDoorW.PrintMore
theorem dgx {n : Int} (h0 : 0 ≤ n) (h1 : n ≤ 100000) : Ev (fun k => caravanref1_Digits.f k n) (bs (D n)) :=
  ⟨21, fun k hk => by
    obtain ⟨d, rfl⟩ : ∃ d, k = d + 21 := ⟨k - 21, by omega⟩
    exact digits_eq n (by omega) (by omega) d⟩
theorem bsz (l : List UInt8) : (bs l).size = l.length := rfl
theorem pcl {s : S31} (h0 : 0 ≤ s.f0) (h1 : s.f0 ≤ s.f1) (h2 : s.f1 ≤ 16383) : (D s.f0).length ≤ 21 ∧ (D s.f1).length ≤ 21 := ⟨dstr_size s.f0 (by omega) (by omega), dstr_size s.f1 (by omega) (by omega)⟩
/-- one span's text behind what stands -/
theorem rtext_j1 (m : List S31) (hml : m.length ≤ 1000000000) (i : Nat) (hi : i < m.length) (h0 : 0 ≤ m[i].f0) (h1 : m[i].f0 ≤ m[i].f1) (h2 : m[i].f1 ≤ 16383) (x : List UInt8) (hx : x.length ≤ 1000000000000) (r : ByteArray)
    (h : Ev (fun k => caravanref1_SpanText.l0 k (bs (x ++ pc m[i])) m ((i + 1 : Nat) : Int)) r) : Ev (fun k => caravanref1_SpanText.j1 k (bs x) m (i : Int)) r := by
  have ew := wj i (by omega)
  obtain ⟨z1, z2⟩ := pcl h0 h1 h2
  have k1 := dgx h0 (by omega)
  have k2 := dgx (n := m[i].f1) (by omega) (by omega)
  by_cases c : m[i].f1 > m[i].f0
  · have e : pc m[i] = D m[i].f0 ++ 45 :: D m[i].f1 := by unfold pc; rw [if_pos c]
    rw [e] at h
    refine Ev.next (f := fun k => (caravanref1_Digits.f k m[i].f0).bind fun t => if (bs x).size + t.size ≤ 9223372036854775807 then (if (bs x ++ t).size + 1 ≤ 9223372036854775807 then (caravanref1_Digits.f k m[i].f1).bind fun u => if ((bs x ++ t) ++ (⟨#[45]⟩ : ByteArray)).size + u.size ≤ 9223372036854775807 then caravanref1_SpanText.l0 k (((bs x ++ t) ++ (⟨#[45]⟩ : ByteArray)) ++ u) m ((i + 1 : Nat) : Int) else none else none) else none) (fun k => ?_) (Ev.seq k1 (Ev.fn (f := fun k => (caravanref1_Digits.f k m[i].f1).bind fun u => if ((bs x ++ bs (D m[i].f0)) ++ (⟨#[45]⟩ : ByteArray)).size + u.size ≤ 9223372036854775807 then caravanref1_SpanText.l0 k (((bs x ++ bs (D m[i].f0)) ++ (⟨#[45]⟩ : ByteArray)) ++ u) m ((i + 1 : Nat) : Int) else none) (fun k => ?_) (Ev.seq k2 (Ev.fn (fun k => ?_) h))))
    · rw [caravanref1_SpanText.j1, if_pos (by omega), if_pos (by omega), rd_at m i hi, ew]
      congr 1; funext t
      by_cases q : (bs x).size + t.size ≤ 9223372036854775807
      · rw [if_pos q, if_pos q, if_pos c]
      · rw [if_neg q, if_neg q]
    · rw [if_pos (by rw [bsz, bsz]; omega), if_pos (by rw [bs_app, bsz, List.length_append]; omega)]
    · rw [show (⟨#[45]⟩ : ByteArray) = bs [45] from rfl, bs_app, bs_app, if_pos (by rw [bsz, bsz, List.length_append, List.length_append]; simp; omega), bs_app]
      congr 2; simp
  · have e : pc m[i] = D m[i].f0 := by unfold pc; rw [if_neg c]
    rw [e] at h
    refine Ev.next (f := fun k => (caravanref1_Digits.f k m[i].f0).bind fun t => if (bs x).size + t.size ≤ 9223372036854775807 then caravanref1_SpanText.l0 k (bs x ++ t) m ((i + 1 : Nat) : Int) else none) (fun k => ?_) (Ev.seq k1 (Ev.fn (fun k => ?_) h))
    · rw [caravanref1_SpanText.j1, if_pos (by omega), if_pos (by omega), rd_at m i hi, ew]
      congr 1; funext t
      by_cases q : (bs x).size + t.size ≤ 9223372036854775807
      · rw [if_pos q, if_pos q, if_neg c]
      · rw [if_neg q, if_neg q]
    · rw [if_pos (by rw [bsz, bsz]; omega), bs_app]
theorem pc_len2 {s : S31} (h0 : 0 ≤ s.f0) (h1 : s.f0 ≤ s.f1) (h2 : s.f1 ≤ 16383) : (pc s).length ≤ 43 := by
  obtain ⟨z1, z2⟩ := pcl h0 h1 h2
  unfold pc
  split
  · simp; omega
  · omega
theorem rtext_loop (m : List S31) (hml : m.length ≤ 1000000000) (hin : ∀ s ∈ m, 0 ≤ s.f0 ∧ s.f0 ≤ s.f1 ∧ s.f1 ≤ 16383) : ∀ n i, i + n = m.length → 0 < i → ∀ x : List UInt8, x.length ≤ 44 * i →
    Ev (fun k => caravanref1_SpanText.l0 k (bs x) m (i : Int)) (bs (x ++ Lib.joinTail [44] ((m.drop i).map pc)))
  | 0, i, hi, h0, x, hx => by
    refine Ev.next (f := fun _ => some (bs x)) (fun k => by rw [caravanref1_SpanText.l0, if_neg (by omega)]) (Ev.const ?_)
    rw [List.drop_of_length_le (by omega)]
    simp [Lib.joinTail]
  | n + 1, i, hi, h0, x, hx => by
    have hlt : i < m.length := by omega
    obtain ⟨a0, a1, a2⟩ := hin m[i] (List.getElem_mem hlt)
    have hp := pc_len2 a0 a1 a2
    have ih := rtext_loop m hml hin n (i + 1) (by omega) (by omega) (x ++ [44] ++ pc m[i]) (by simp; omega)
    refine Ev.next (fun k => ?_) (rtext_j1 m hml i hlt a0 a1 a2 (x ++ [44]) (by simp; omega) _ (Ev.same ih ?_))
    · rw [caravanref1_SpanText.l0, if_pos (by omega), if_pos (by omega), if_pos (by rw [bsz]; omega), show (⟨#[44]⟩ : ByteArray) = bs [44] from rfl, bs_app]
    · rw [List.drop_eq_getElem_cons hlt]
      unfold Lib.joinTail
      rw [List.map_cons, List.map_cons, List.flatten_cons]
      simp only [List.append_assoc]
theorem rtext_ev (l : List S31) (hl : l.length ≤ 100000000) (hw : ∀ s ∈ l, -9223372036854775808 ≤ s.f1) : Ev (fun k => caravanref1_SpanText.f k l) (textS l) := by
  have hn := rnorm_ev l hl hw
  have hln := normS_len l
  have hm := (norm_spec l).1
  refine Ev.seq hn ?_
  have e : textS l = textS (normS l) := by unfold textS; rw [norm_idem hm]
  rw [e, textS_of hm]
  generalize normS l = m at *
  have hin := mayF_in hm (Int.le_refl _)
  cases m with
  | nil =>
    exact Ev.next (f := fun _ => some (⟨#[]⟩ : ByteArray)) (fun k => by rw [caravanref1_SpanText.l0, if_neg (by simp)]) (Ev.const rfl)
  | cons s r =>
    obtain ⟨a0, a1, a2⟩ := hin s (by simp)
    have hp := pc_len2 a0 a1 a2
    have h1 := rtext_loop (s :: r) (by omega) hin r.length 1 (by simp; omega) (by omega) (pc s) (by omega)
    refine Ev.next (fun k => ?_) (rtext_j1 (s :: r) (by omega) 0 (by simp) a0 a1 a2 [] (by simp) _ (Ev.same h1 ?_))
    · rw [caravanref1_SpanText.l0, if_pos (by simp), if_neg (by omega)]; rfl
    · rw [List.map_cons, Lib.join_cons]; rfl
theorem rcount_loop (m : List S31) (hml : m.length ≤ 1000000000) (hin : ∀ s ∈ m, 0 ≤ s.f0 ∧ s.f0 ≤ s.f1 ∧ s.f1 ≤ 16383) : ∀ n i, i + n = m.length → ∀ a : Int, 0 ≤ a → a ≤ 16384 * (i : Int) → Ev (fun k => caravanref1_Count.l0 k a m (i : Int)) (a + widS (m.drop i))
  | 0, i, hi, a, h0, h1 => by
    refine Ev.next (f := fun _ => some a) (fun k => by rw [caravanref1_Count.l0, if_neg (by omega)]) (Ev.const ?_)
    rw [List.drop_of_length_le (by omega)]
    exact congrArg some (by show a = a + 0; omega)
  | n + 1, i, hi, a, h0, h1 => by
    have hlt : i < m.length := by omega
    obtain ⟨a0, a1, a2⟩ := hin m[i] (List.getElem_mem hlt)
    have ew := wj i (by omega)
    have e1 : wrap64 (a + m[i].f1) = a + m[i].f1 := w64 (by omega) (by omega)
    have e2 : wrap64 (a + m[i].f1 - m[i].f0) = a + m[i].f1 - m[i].f0 := w64 (by omega) (by omega)
    have e3 : wrap64 (a + m[i].f1 - m[i].f0 + 1) = a + (m[i].f1 - m[i].f0 + 1) := by rw [Go.Proofs.YtnlakdpfkgjdaaaDoor.G.w64 _ (by omega) (by omega)]; omega
    have ih := rcount_loop m hml hin n (i + 1) (by omega) (a + (m[i].f1 - m[i].f0 + 1)) (by omega) (by omega)
    refine Ev.next (fun k => ?_) (Ev.same ih ?_)
    · rw [caravanref1_Count.l0, if_pos (by omega), if_pos (by omega), rd_at m i hlt, ew, e1, e2, e3]
    · rw [List.drop_eq_getElem_cons hlt]
      show _ = a + ((m[i].f1 - m[i].f0 + 1) + widS (m.drop (i + 1)))
      omega
theorem rcount_ev (l : List S31) (hl : l.length ≤ 100000000) (hw : ∀ s ∈ l, -9223372036854775808 ≤ s.f1) : Ev (fun k => caravanref1_Count.f k l) (widS (normS l)) := by
  have hln := normS_len l
  exact Ev.seq (rnorm_ev l hl hw) (Ev.same (rcount_loop (normS l) (by omega) (mayF_in (norm_spec l).1 (Int.le_refl _)) (normS l).length 0 (by omega) 0 (by omega) (by omega)) (by rw [List.drop_zero]; omega))
/-- what is made of what was read -/
def refE (s : ByteArray) : Option (List S31) → List S31 × Bool
  | none => ([], false)
  | some l => if mayB l = true ∧ textS l = s then (l, true) else ([], false)
theorem refR_eq (s : ByteArray) : refR s = refE s (rdS s.data.toList) := by unfold refR refE; cases rdS s.data.toList <;> rfl
theorem rend_ev (s : ByteArray) (out : List S31) (hl : out.length ≤ 100000000) (hw : ∀ s ∈ out, -9223372036854775808 ≤ s.f1) (n f dg i : Int) : Ev (fun k => caravanref1_ReadSpans.j1 k s out n f dg i false) (refE s (some out)) := by
  have k1 := rmay_ev out (by omega)
  have k2 := rtext_ev out hl hw
  refine Ev.next (f := fun k => (caravanref1_MaySpans.f k out).bind fun t => if t = true then (caravanref1_SpanText.f k out).bind fun u => if u.toList = s.toList then some (out, true) else some ([], false) else some ([], false)) (fun k => by rw [caravanref1_ReadSpans.j1, if_neg (by decide)]) (Ev.seq k1 ?_)
  unfold refE
  dsimp only
  cases mayB out with
  | false => exact Ev.fn (f := fun _ => some ([], false)) (fun k => by rw [if_neg (by decide)]) (Ev.const (by rw [if_neg (by simp)]))
  | true =>
    refine Ev.fn (fun k => by rw [if_pos rfl]) (Ev.seq k2 (Ev.const ?_))
    by_cases c : textS out = s
    · rw [if_pos (by rw [c]), if_pos ⟨rfl, c⟩]
    · rw [if_neg (fun h => c (toList_inj h)), if_neg (fun h => c h.2)]
theorem bt_of (s : ByteArray) (i : Nat) (h : i < s.data.toList.length) : bt s (i : Int) = ((s.data.toList[i]).toNat : Int) := by
  have h' : i < s.size := by rw [Array.length_toList] at h; exact h
  unfold bt
  rw [dif_pos (by rw [Int.toNat_natCast]; exact h')]
  simp only [Int.toNat_natCast]
  rfl
theorem ne_toList {s : ByteArray} (h : s.data.toList ≠ []) : (s.toList != ([] : List UInt8)) = true := by rw [toList_data, bne_iff_ne]; exact h
theorem rread_loop (s : ByteArray) (hs : s.data.toList.length ≤ 1000000) (hne : s.data.toList ≠ []) : ∀ m i, i + m = s.data.toList.length → ∀ (n f dg : Int) (out : List S31), 0 ≤ n → n ≤ 163849 → 0 ≤ dg → dg ≤ i → out.length ≤ i → (∀ s ∈ out, -9223372036854775808 ≤ s.f1) →
    Ev (fun k => caravanref1_ReadSpans.l0 k s out n f dg (i : Int)) (refE s (rdL (s.data.toList.drop i) n f dg out)) := by
  have hsz : (s.size : Int) = (s.data.toList.length : Int) := by rw [Array.length_toList]; rfl
  have hn0 := ne_toList hne
  -- a span is told, or nothing more
  have hj4 : ∀ (i : Nat) (n f dg : Int) (out : List S31), i ≤ s.data.toList.length → out.length ≤ i → ∀ (r : List S31 × Bool), (dg > 0 → Ev (fun k => caravanref1_ReadSpans.l0 k s (out ++ [spanR n f]) 0 (-1) 0 ((i + 1 : Nat) : Int)) r) → (¬ dg > 0 → r = ([], false)) →
      Ev (fun k => caravanref1_ReadSpans.j4 k s out n f (i : Int) (decide (dg > 0))) r := fun i n f dg out hi ho r h1 h2 => by
    have ew := wj i (by omega)
    by_cases c : dg > 0
    · refine Ev.next (fun k => ?_) (h1 c)
      rw [caravanref1_ReadSpans.j4, if_pos (by simpa using c), ew]
      unfold spanR
      by_cases d : f < 0
      · rw [if_pos d, if_pos (by omega), if_pos d]
      · rw [if_neg d, if_pos (by omega), if_neg d]
    · refine Ev.next (f := fun _ => some ([], false)) (fun k => by rw [caravanref1_ReadSpans.j4, if_neg (by simpa using c)]) (Ev.const (by rw [h2 c]))
  intro m
  induction m with
  | zero =>
    intro i hi n f dg out h0 h1 h2 h3 h4 h5
    rw [List.drop_of_length_le (by omega), rdL]
    have hj : Ev (fun k => caravanref1_ReadSpans.j4 k s out n f (i : Int) (decide (dg > 0))) (refE s (if dg > 0 then some (out ++ [spanR n f]) else none)) := by
      refine hj4 i n f dg out (by omega) h4 _ (fun c => ?_) (fun c => by rw [if_neg c]; rfl)
      rw [if_pos c]
      refine Ev.next (fun k => ?_) (rend_ev s (out ++ [spanR n f]) (by simp; omega) (fun x hx => ?_) 0 (-1) 0 ((i + 1 : Nat) : Int))
      · rw [caravanref1_ReadSpans.l0, if_neg (by omega)]
      · rcases List.mem_append.1 hx with e | e
        · exact h5 x e
        · rw [List.mem_singleton.1 e]; show _ ≤ n; omega
    have hj3 : Ev (fun k => caravanref1_ReadSpans.j3 k s out n f dg (i : Int) false) (refE s (if dg > 0 then some (out ++ [spanR n f]) else none)) :=
      Ev.next (fun k => by rw [caravanref1_ReadSpans.j3, if_neg (by decide), if_pos (by omega)]) hj
    have hj2 : Ev (fun k => caravanref1_ReadSpans.j2 k s out n f dg (i : Int) false) (refE s (if dg > 0 then some (out ++ [spanR n f]) else none)) :=
      Ev.next (fun k => by rw [caravanref1_ReadSpans.j2, if_neg (by decide), if_neg (by omega)]) hj3
    have hj1 : Ev (fun k => caravanref1_ReadSpans.j1 k s out n f dg (i : Int) true) (refE s (if dg > 0 then some (out ++ [spanR n f]) else none)) :=
      Ev.next (fun k => by rw [caravanref1_ReadSpans.j1, if_pos rfl, if_neg (by omega)]) hj2
    exact Ev.next (fun k => by rw [caravanref1_ReadSpans.l0, if_pos (by omega), hn0]) hj1
  | succ m ih =>
    intro i hi n f dg out h0 h1 h2 h3 h4 h5
    have hlt : i < s.data.toList.length := by omega
    have eb := bt_of s i hlt
    have ew := wj i (by omega)
    rw [List.drop_eq_getElem_cons hlt]
    generalize hc : s.data.toList[i] = c at *
    have hcl : c.toNat ≤ 255 := by have := c.toNat_lt; omega
    have hj1 : Ev (fun k => caravanref1_ReadSpans.j1 k s out n f dg (i : Int) true) (refE s (rdL (c :: s.data.toList.drop (i + 1)) n f dg out)) := by
      rw [rdL]
      by_cases d : 48 ≤ c.toNat ∧ c.toNat ≤ 57 ∧ n < 16384
      · rw [if_pos d]
        have e1 : wrap64 (10 * n) = 10 * n := w64 (by omega) (by omega)
        have e2 : (((c.toNat : Int) - 48) % 256) = (c.toNat : Int) - 48 := by omega
        have e3 : wrap64 (10 * n + ((c.toNat : Int) - 48)) = 10 * n + ((c.toNat : Int) - 48) := w64 (by omega) (by omega)
        have e4 : wrap64 (dg + 1) = dg + 1 := w64 (by omega) (by omega)
        have hj2 : Ev (fun k => caravanref1_ReadSpans.j2 k s out n f dg (i : Int) true) _ := Ev.next (fun k => by rw [caravanref1_ReadSpans.j2, if_pos rfl, if_pos (by omega), if_pos (by omega), eb, e1, e2, e3, e4, ew]) (ih (i + 1) (by omega) (10 * n + ((c.toNat : Int) - 48)) f (dg + 1) out (by omega) (by omega) (by omega) (by omega) (by omega) h5)
        exact Ev.next (fun k => by rw [caravanref1_ReadSpans.j1, if_pos rfl, if_pos (by omega), if_pos (by omega), eb, if_pos (by omega), if_pos (by omega), decide_eq_true d.2.2]) hj2
      · rw [if_neg d]
        have hj3 : Ev (fun k => caravanref1_ReadSpans.j2 k s out n f dg (i : Int) false) (refE s (if c.toNat = 45 ∧ f < 0 ∧ dg > 0 then rdL (s.data.toList.drop (i + 1)) 0 n 0 out else if c.toNat = 44 ∧ dg > 0 then rdL (s.data.toList.drop (i + 1)) 0 (-1) 0 (out ++ [spanR n f]) else none)) := by
          by_cases d2 : c.toNat = 45 ∧ f < 0 ∧ dg > 0
          · rw [if_pos d2]
            have k3 : Ev (fun k => caravanref1_ReadSpans.j3 k s out n f dg (i : Int) true) _ := Ev.next (fun k => by rw [caravanref1_ReadSpans.j3, if_pos rfl, ew]) (ih (i + 1) (by omega) 0 n 0 out (by omega) (by omega) (by omega) (by omega) (by omega) h5)
            exact Ev.next (fun k => by rw [caravanref1_ReadSpans.j2, if_neg (by decide), if_pos (by omega), if_pos (by omega), eb, if_pos (by omega), if_pos d2.2.1, decide_eq_true d2.2.2]) k3
          · rw [if_neg d2]
            have k3 : Ev (fun k => caravanref1_ReadSpans.j3 k s out n f dg (i : Int) false) (refE s (if c.toNat = 44 ∧ dg > 0 then rdL (s.data.toList.drop (i + 1)) 0 (-1) 0 (out ++ [spanR n f]) else none)) := by
              by_cases d3 : c.toNat = 44
              · refine Ev.next (fun k => by rw [caravanref1_ReadSpans.j3, if_neg (by decide), if_neg (by omega), if_pos (by omega), if_pos (by omega), eb, if_pos (by omega)]) (hj4 i n f dg out (by omega) h4 _ (fun e => ?_) (fun e => by rw [if_neg (fun h => e h.2)]; rfl))
                rw [if_pos ⟨d3, e⟩]
                refine ih (i + 1) (by omega) 0 (-1) 0 (out ++ [spanR n f]) (by omega) (by omega) (by omega) (by omega) (by simp; omega) (fun x hx => ?_)
                rcases List.mem_append.1 hx with e | e
                · exact h5 x e
                · rw [List.mem_singleton.1 e]; show _ ≤ n; omega
              · rw [if_neg (fun h => d3 h.1)]
                have k4 : Ev (fun k => caravanref1_ReadSpans.j4 k s out n f (i : Int) false) (refE s none) := Ev.next (f := fun _ => some ([], false)) (fun k => by rw [caravanref1_ReadSpans.j4, if_neg (by decide)]) (Ev.const rfl)
                exact Ev.next (fun k => by rw [caravanref1_ReadSpans.j3, if_neg (by decide), if_neg (by omega), if_pos (by omega), if_pos (by omega), eb, if_neg (by omega)]) k4
            refine Ev.next (fun k => ?_) k3
            rw [caravanref1_ReadSpans.j2, if_neg (by decide), if_pos (by omega), if_pos (by omega), eb]
            by_cases d4 : c.toNat = 45
            · rw [if_pos (by omega)]
              by_cases d5 : f < 0
              · rw [if_pos d5, decide_eq_false (fun h => d2 ⟨d4, d5, h⟩)]
              · rw [if_neg d5]
            · rw [if_neg (by omega)]
        refine Ev.next (fun k => ?_) hj3
        rw [caravanref1_ReadSpans.j1, if_pos rfl, if_pos (by omega), if_pos (by omega), eb]
        by_cases d4 : 48 ≤ c.toNat
        · rw [if_pos (by omega)]
          by_cases d5 : c.toNat ≤ 57
          · rw [if_pos (by omega), decide_eq_false (fun h => d ⟨d4, d5, h⟩)]
          · rw [if_neg (by omega)]
        · rw [if_neg (by omega)]
    exact Ev.next (fun k => by rw [caravanref1_ReadSpans.l0, if_pos (by omega), hn0]) hj1
theorem rread_ev (s : ByteArray) (hs : s.size ≤ 1000000) : Ev (fun k => caravanref1_ReadSpans.f k s) (readP s) := by
  rw [← ref_read, refR_eq]
  unfold rdS
  by_cases c : s.data.toList = []
  · rw [if_pos c]
    have hz : s.size = 0 := by have := congrArg List.length c; rw [Array.length_toList] at this; exact this
    refine Ev.next (g := fun k => caravanref1_ReadSpans.l0 k s [] 0 (-1) 0 0) (fun k => ?_) (rend_ev s [] (by simp) (fun x hx => by cases hx) 0 (-1) 0 0)
    rw [caravanref1_ReadSpans.l0, if_pos (by omega)]
    congr 1
    rw [toList_data, c]; rfl
  · rw [if_neg c]
    have := rread_loop s (by rw [Array.length_toList]; exact hs) c s.data.toList.length 0 (by omega) 0 (-1) 0 [] (by omega) (by omega) (by omega) (by omega) (by simp) (fun x hx => by cases hx)
    rw [List.drop_zero] at this
    exact this
end Go.Proofs.YtnlakdpfkgjdaaaDoor.Pure
