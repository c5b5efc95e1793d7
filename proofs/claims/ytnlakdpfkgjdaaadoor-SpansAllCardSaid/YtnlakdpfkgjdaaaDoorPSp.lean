/- Spans as plain lists: what they say, as they should stand, together, both, the gaps, how many slots. No conditions. -/
import Derived.Test.YtnlakdpfkgjdaaaDoorG0
namespace Go.Proofs.YtnlakdpfkgjdaaaDoor.G
open Go
/-! Spans that stand as they should, and what they say. -/
/-- does one of the spans hold a slot? -/
def hasS (l : List S31) (n : Int) : Bool := l.any fun s => decide (s.f0 ≤ n) && decide (n ≤ s.f1)
/-- rising, apart, below 16384, behind a place -/
def mayF : Int → List S31 → Prop
  | _, [] => True
  | a, s :: r => a < s.f0 ∧ s.f0 ≤ s.f1 ∧ s.f1 ≤ 16383 ∧ mayF (s.f1 + 1) r
def mayS (l : List S31) : Prop := mayF (-1) l
theorem hasS_nil (n : Int) : hasS [] n = false := rfl
theorem hasS_cons (s : S31) (l : List S31) (n : Int) : hasS (s :: l) n = ((decide (s.f0 ≤ n) && decide (n ≤ s.f1)) || hasS l n) := rfl
theorem hasS_app (l m : List S31) (n : Int) : hasS (l ++ m) n = (hasS l n || hasS m n) := by unfold hasS; rw [List.any_append]
theorem hasS_iff (l : List S31) (n : Int) : hasS l n = true ↔ ∃ s ∈ l, s.f0 ≤ n ∧ n ≤ s.f1 := by
  unfold hasS; rw [List.any_eq_true]; simp
theorem mayF_mono {a b : Int} (h : b ≤ a) : ∀ {l : List S31}, mayF a l → mayF b l
  | [], _ => trivial
  | _ :: _, ⟨h1, h2⟩ => ⟨by omega, h2⟩
theorem mayF_has {a : Int} : ∀ {l : List S31}, mayF a l → ∀ n, hasS l n = true → a < n ∧ n ≤ 16383
  | [], _, n, h => by cases h
  | s :: r, ⟨h1, h2, h3, h4⟩, n, h => by
    rw [hasS_cons, Bool.or_eq_true] at h
    rcases h with h | h
    · simp at h; omega
    · have := mayF_has h4 n h; omega
theorem may_unique : ∀ {l m : List S31} {a b : Int}, mayF a l → mayF b m → (∀ n, hasS l n = hasS m n) → l = m
  | [], [], _, _, _, _, _ => rfl
  | [], s :: r, _, _, _, ⟨h1, h2, _⟩, h => by
    have := h s.f0
    rw [hasS_nil, hasS_cons] at this
    simp [h2] at this
  | s :: r, [], _, _, ⟨h1, h2, _⟩, _, h => by
    have := h s.f0
    rw [hasS_nil, hasS_cons] at this
    simp [h2] at this
  | s :: r, t :: q, a, b, ⟨h1, h2, h3, h4⟩, ⟨g1, g2, g3, g4⟩, h => by
    have key : ∀ n, ((s.f0 ≤ n ∧ n ≤ s.f1) ∨ hasS r n = true) ↔ ((t.f0 ≤ n ∧ n ≤ t.f1) ∨ hasS q n = true) := fun n => by
      have := h n
      rw [hasS_cons, hasS_cons, Bool.eq_iff_iff] at this
      simpa using this
    have hr := fun n => mayF_has h4 n
    have hq := fun n => mayF_has g4 n
    have e0 : s.f0 = t.f0 := by
      have k1 := key s.f0
      have k2 := key t.f0
      have r1 := hr t.f0
      have q1 := hq s.f0
      by_cases c1 : hasS r t.f0 = true <;> by_cases c2 : hasS q s.f0 = true <;> simp [c1, c2] at k1 k2 r1 q1 <;> omega
    have e1 : s.f1 = t.f1 := by
      have k1 := key (s.f1 + 1)
      have k2 := key (t.f1 + 1)
      have r1 := hr (s.f1 + 1)
      have r2 := hr (t.f1 + 1)
      have q1 := hq (s.f1 + 1)
      have q2 := hq (t.f1 + 1)
      by_cases c1 : hasS r (s.f1 + 1) = true <;> by_cases c2 : hasS r (t.f1 + 1) = true <;> by_cases c3 : hasS q (s.f1 + 1) = true <;> by_cases c4 : hasS q (t.f1 + 1) = true <;> simp [c1, c2, c3, c4] at k1 k2 r1 r2 q1 q2 <;> omega
    have e : s = t := by cases s; cases t; simp only at e0 e1; rw [e0, e1]
    subst e
    have hrest : ∀ n, hasS r n = hasS q n := fun n => by
      rw [Bool.eq_iff_iff]
      have k := key n
      constructor
      · intro c
        have := hr n c
        rcases k.1 (.inr c) with c' | c'
        · omega
        · exact c'
      · intro c
        have := hq n c
        rcases k.2 (.inr c) with c' | c'
        · omega
        · exact c'
    rw [may_unique h4 g4 hrest]
theorem mayS_unique {l m : List S31} (h : mayS l) (g : mayS m) (e : ∀ n, 0 ≤ n → n ≤ 16383 → hasS l n = hasS m n) : l = m :=
  may_unique h g fun n => by
    by_cases c : 0 ≤ n ∧ n ≤ 16383
    · exact e n c.1 c.2
    · have q1 : hasS l n = false := by
        cases k : hasS l n with
        | false => rfl
        | true => have := mayF_has h n k; omega
      have q2 : hasS m n = false := by
        cases k : hasS m n with
        | false => rfl
        | true => have := mayF_has g n k; omega
      rw [q1, q2]
/-- what a list says of a slot -/
def sayS (l : List S31) (n : Int) : Bool := decide (0 ≤ n) && decide (n ≤ 16383) && hasS l n
theorem sayS_may {l : List S31} (h : mayS l) (n : Int) : sayS l n = hasS l n := by
  unfold sayS
  cases k : hasS l n with
  | false => simp
  | true => have := mayF_has h n k; simp; omega
/-- a span cut to what slots there are -/
def clipS (s : S31) : S31 := ⟨max s.f0 0, min s.f1 16383⟩
def okS (s : S31) : Bool := decide ((clipS s).f0 ≤ (clipS s).f1)
theorem okS_iff (s : S31) : okS s = true ↔ max s.f0 0 ≤ min s.f1 16383 := decide_eq_true_iff
/-- the spans of a list, cut -/
def cutS (l : List S31) : List S31 := (l.filter okS).map clipS
theorem has_cut (l : List S31) (n : Int) : hasS (cutS l) n = sayS l n := by
  induction l with
  | nil => unfold sayS; simp [cutS, hasS]
  | cons s l ih =>
    have e : sayS (s :: l) n = ((decide (0 ≤ n) && decide (n ≤ 16383) && (decide (s.f0 ≤ n) && decide (n ≤ s.f1))) || sayS l n) := by
      unfold sayS; rw [hasS_cons]; cases decide (0 ≤ n) <;> cases decide (n ≤ 16383) <;> simp
    rw [e, ← ih]
    unfold cutS
    by_cases h : okS s = true
    · rw [List.filter_cons_of_pos h, List.map_cons, hasS_cons]
      congr 1
      rw [Bool.eq_iff_iff]
      simp only [Bool.and_eq_true, decide_eq_true_eq]
      show (max s.f0 0 ≤ n ∧ n ≤ min s.f1 16383) ↔ _
      omega
    · rw [List.filter_cons_of_neg h]
      have : (decide (0 ≤ n) && decide (n ≤ 16383) && (decide (s.f0 ≤ n) && decide (n ≤ s.f1))) = false := by
        rw [okS_iff] at h
        rw [Bool.eq_false_iff]
        simp only [ne_eq, Bool.and_eq_true, decide_eq_true_eq]; omega
      rw [this, Bool.false_or]
/-- each span lies among the slots -/
def inS (l : List S31) : Prop := ∀ s ∈ l, 0 ≤ s.f0 ∧ s.f0 ≤ s.f1 ∧ s.f1 ≤ 16383
theorem cut_in (l : List S31) : inS (cutS l) := fun s hs => by
  unfold cutS at hs
  obtain ⟨t, ht, rfl⟩ := List.mem_map.1 hs
  have := (List.mem_filter.1 ht).2
  rw [okS_iff] at this
  show 0 ≤ max t.f0 0 ∧ max t.f0 0 ≤ min t.f1 16383 ∧ min t.f1 16383 ≤ 16383
  omega
/-- rising beginnings -/
def risingS : List S31 → Prop
  | [] => True
  | [_] => True
  | s :: t :: r => s.f0 ≤ t.f0 ∧ risingS (t :: r)
/-- one span more -/
def stepS (out : List S31) (s : S31) : List S31 :=
  match out.getLast? with
  | none => [s]
  | some t => if s.f0 ≤ t.f1 + 1 then out.dropLast ++ [⟨t.f0, max t.f1 s.f1⟩] else out ++ [s]
def mergeS (l : List S31) : List S31 := l.foldl stepS []
/-- where a list ends -/
def endS (a : Int) : List S31 → Int
  | [] => a
  | s :: r => endS (s.f1 + 1) r
theorem mayF_app : ∀ {l : List S31} {a : Int} {s : S31}, mayF a (l ++ [s]) ↔ mayF a l ∧ endS a l < s.f0 ∧ s.f0 ≤ s.f1 ∧ s.f1 ≤ 16383
  | [], a, s => by simp [mayF, endS]
  | t :: r, a, s => by
    rw [List.cons_append]
    simp only [mayF, endS]
    rw [mayF_app]
    constructor
    · rintro ⟨h1, h2, h3, h4, h5⟩; exact ⟨⟨h1, h2, h3, h4⟩, h5⟩
    · rintro ⟨⟨h1, h2, h3, h4⟩, h5⟩; exact ⟨h1, h2, h3, h4, h5⟩
theorem endS_app : ∀ (l : List S31) (a : Int) (s : S31), endS a (l ++ [s]) = s.f1 + 1
  | [], a, s => rfl
  | t :: r, a, s => by rw [List.cons_append, endS, endS_app r]
theorem merge_inv : ∀ (rest out : List S31), inS rest → risingS rest → (∀ t, out.getLast? = some t → ∀ s, rest.head? = some s → t.f0 ≤ s.f0) → mayS out →
    mayS (rest.foldl stepS out) ∧ ∀ n, hasS (rest.foldl stepS out) n = (hasS out n || hasS rest n)
  | [], out, _, _, _, hm => ⟨hm, fun n => by simp [hasS]⟩
  | s :: rest, out, hi, hr, hl, hm => by
    have hs := hi s List.mem_cons_self
    have hi' : inS rest := fun t ht => hi t (List.mem_cons_of_mem _ ht)
    have hr' : risingS rest := by
      cases rest with
      | nil => trivial
      | cons t r => exact hr.2
    have hh : ∀ s', rest.head? = some s' → s.f0 ≤ s'.f0 := fun s' h => by
      cases rest with
      | nil => cases h
      | cons t r => cases h; exact hr.1
    rw [List.foldl_cons]
    rcases List.eq_nil_or_concat out with rfl | ⟨q, t, rfl⟩
    · have hst : stepS [] s = [s] := rfl
      rw [hst]
      obtain ⟨a, b⟩ := merge_inv rest [s] hi' hr' (fun t ht s' h => by cases ht; exact hh s' h) ⟨by omega, hs.2.1, hs.2.2, trivial⟩
      exact ⟨a, fun n => by rw [b n, hasS_cons, hasS_cons]; simp [hasS]⟩
    · rw [List.concat_eq_append] at hl hm ⊢
      have hgl : (q ++ [t]).getLast? = some t := by simp
      have hts := hl t hgl s rfl
      obtain ⟨m1, m2, m3, m4⟩ := mayF_app.1 hm
      have hst : stepS (q ++ [t]) s = if s.f0 ≤ t.f1 + 1 then q ++ [⟨t.f0, max t.f1 s.f1⟩] else q ++ [t] ++ [s] := by
        unfold stepS; rw [hgl]; simp
      rw [hst]
      by_cases c : s.f0 ≤ t.f1 + 1
      · rw [if_pos c]
        obtain ⟨a, b⟩ := merge_inv rest (q ++ [⟨t.f0, max t.f1 s.f1⟩]) hi' hr' (fun t' ht s' h => by
          have : t' = ⟨t.f0, max t.f1 s.f1⟩ := by simpa using ht.symm
          subst this
          have := hh s' h
          show t.f0 ≤ s'.f0
          omega) (mayF_app.2 ⟨m1, m2, by show t.f0 ≤ max _ _; omega, by show max _ _ ≤ _; omega⟩)
        refine ⟨a, fun n => ?_⟩
        rw [b n, hasS_app, hasS_app, hasS_cons s rest]
        cases hasS q n <;> cases hasS rest n <;> simp [hasS]
        rw [Bool.eq_iff_iff]
        simp; omega
      · rw [if_neg c]
        obtain ⟨a, b⟩ := merge_inv rest (q ++ [t] ++ [s]) hi' hr' (fun t' ht s' h => by
          have : t' = s := by simpa using ht.symm
          subst this
          exact hh s' h) (mayF_app.2 ⟨hm, by rw [endS_app]; omega, hs.2.1, hs.2.2⟩)
        refine ⟨a, fun n => ?_⟩
        rw [b n, hasS_app, hasS_cons s rest, hasS_cons s [], hasS_nil, Bool.or_false, Bool.or_assoc]
theorem merge_spec (l : List S31) (hi : inS l) (hr : risingS l) : mayS (mergeS l) ∧ ∀ n, hasS (mergeS l) n = hasS l n := by
  obtain ⟨a, b⟩ := merge_inv l [] hi hr (fun t h => by cases h) trivial
  exact ⟨a, fun n => (b n).trans (by rw [hasS_nil, Bool.false_or])⟩
/-- put into a rising list -/
def insS (s : S31) : List S31 → List S31
  | [] => [s]
  | t :: r => if s.f0 ≤ t.f0 then s :: t :: r else t :: insS s r
def sortS : List S31 → List S31
  | [] => []
  | s :: r => insS s (sortS r)
theorem ins_mem (s x : S31) : ∀ l, x ∈ insS s l ↔ x = s ∨ x ∈ l
  | [] => by simp [insS]
  | t :: r => by
    unfold insS
    split
    · simp
    · simp [ins_mem s x r]
      constructor
      · rintro (h | h | h) <;> simp [h]
      · rintro (h | h | h) <;> simp [h]
theorem sort_mem (x : S31) : ∀ l, x ∈ sortS l ↔ x ∈ l
  | [] => Iff.rfl
  | s :: r => by rw [sortS, ins_mem, sort_mem x r, List.mem_cons]
theorem ins_rising (s : S31) : ∀ l, risingS l → risingS (insS s l)
  | [], _ => trivial
  | [t], _ => by
    unfold insS
    split
    · rename_i h; exact ⟨h, trivial⟩
    · rename_i h; exact ⟨by omega, trivial⟩
  | t :: u :: r, ⟨h1, h2⟩ => by
    unfold insS
    split
    · rename_i h; exact ⟨h, h1, h2⟩
    · rename_i h
      have ih := ins_rising s (u :: r) h2
      unfold insS at ih ⊢
      split
      · rename_i h3; rw [if_pos h3] at ih; exact ⟨by omega, ih⟩
      · rename_i h3; rw [if_neg h3] at ih; exact ⟨h1, ih⟩
theorem sort_rising : ∀ l, risingS (sortS l)
  | [] => trivial
  | s :: r => ins_rising s _ (sort_rising r)
theorem has_mem (l m : List S31) (h : ∀ x, x ∈ l ↔ x ∈ m) (n : Int) : hasS l n = hasS m n := by
  rw [Bool.eq_iff_iff, hasS_iff, hasS_iff]
  exact ⟨fun ⟨s, a, b⟩ => ⟨s, (h s).1 a, b⟩, fun ⟨s, a, b⟩ => ⟨s, (h s).2 a, b⟩⟩
/-- what a list says, as it should stand -/
def normS (l : List S31) : List S31 := mergeS (sortS (cutS l))
theorem norm_spec (l : List S31) : mayS (normS l) ∧ ∀ n, hasS (normS l) n = sayS l n := by
  have hin : inS (sortS (cutS l)) := fun s hs => cut_in l s ((sort_mem s _).1 hs)
  obtain ⟨a, b⟩ := merge_spec (sortS (cutS l)) hin (sort_rising _)
  exact ⟨a, fun n => (b n).trans (by rw [has_mem _ _ (fun x => sort_mem x (cutS l)), has_cut])⟩
theorem norm_of {l m : List S31} (hm : mayS m) (h : ∀ n, hasS m n = sayS l n) : m = normS l :=
  may_unique hm (norm_spec l).1 fun n => by rw [h n, (norm_spec l).2 n]
/-- whatever order the sort leaves alike beginnings in -/
theorem norm_merge (l d : List S31) (hd : ∀ x, x ∈ d ↔ x ∈ cutS l) (hr : risingS d) : mergeS d = normS l := by
  have hin : inS d := fun s hs => cut_in l s ((hd s).1 hs)
  obtain ⟨a, b⟩ := merge_spec d hin hr
  exact norm_of a fun n => by rw [b n, has_mem _ _ hd, has_cut]
theorem norm_idem {l : List S31} (h : mayS l) : normS l = l := (norm_of h fun n => (sayS_may h n).symm).symm
theorem norm_say (l : List S31) (n : Int) : sayS (normS l) n = sayS l n := by rw [sayS_may (norm_spec l).1, (norm_spec l).2]
theorem norm_ext {l m : List S31} (h : ∀ n, 0 ≤ n → n ≤ 16383 → sayS l n = sayS m n) : normS l = normS m :=
  mayS_unique (norm_spec l).1 (norm_spec m).1 fun n a b => by rw [(norm_spec l).2, (norm_spec m).2, h n a b]
/-- what the first list says, and the second one -/
def bothL (x y : List S31) : List S31 := (x.flatMap fun s => (y.map fun t => (⟨max s.f0 t.f0, min s.f1 t.f1⟩ : S31)).filter fun u => decide (u.f0 ≤ u.f1))
theorem both_has (x y : List S31) (n : Int) : hasS (bothL x y) n = (hasS x n && hasS y n) := by
  rw [Bool.eq_iff_iff, Bool.and_eq_true, hasS_iff, hasS_iff, hasS_iff]
  unfold bothL
  constructor
  · rintro ⟨u, hu, h1, h2⟩
    obtain ⟨s, hs, hu⟩ := List.mem_flatMap.1 hu
    obtain ⟨hu, _⟩ := List.mem_filter.1 hu
    obtain ⟨t, ht, rfl⟩ := List.mem_map.1 hu
    simp only at h1 h2
    exact ⟨⟨s, hs, by omega, by omega⟩, ⟨t, ht, by omega, by omega⟩⟩
  · rintro ⟨⟨s, hs, h1, h2⟩, ⟨t, ht, h3, h4⟩⟩
    refine ⟨⟨max s.f0 t.f0, min s.f1 t.f1⟩, List.mem_flatMap.2 ⟨s, hs, List.mem_filter.2 ⟨List.mem_map.2 ⟨t, ht, rfl⟩, ?_⟩⟩, ?_, ?_⟩
    · simp; omega
    · show max _ _ ≤ _; omega
    · show _ ≤ min _ _; omega
/-- the pairs of two lists that meet, as two hands go through them -/
def pairsS : Nat → List S31 → List S31 → List (S31 × S31)
  | 0, _, _ => []
  | _ + 1, [], _ => []
  | _ + 1, _, [] => []
  | k + 1, s :: x, t :: y =>
    let rest := if s.f1 < t.f1 then pairsS k x (t :: y) else pairsS k (s :: x) y
    if max s.f0 t.f0 ≤ min s.f1 t.f1 then (s, t) :: rest else rest
def meetS (p : S31 × S31) : S31 := ⟨max p.1.f0 p.2.f0, min p.1.f1 p.2.f1⟩
theorem pairs_has : ∀ (k : Nat) (x y : List S31) (a b : Int), x.length + y.length ≤ k → mayF a x → mayF b y → ∀ n, hasS ((pairsS k x y).map meetS) n = (hasS x n && hasS y n)
  | 0, x, y, _, _, h, _, _, n => by
    have : x = [] := List.eq_nil_of_length_eq_zero (by omega)
    subst this; simp [pairsS, hasS]
  | k + 1, [], y, _, _, _, _, _, n => by simp [pairsS, hasS]
  | k + 1, s :: x, [], _, _, _, _, _, n => by simp [pairsS, hasS]
  | k + 1, s :: x, t :: y, a, b, h, ⟨a1, a2, a3, a4⟩, ⟨b1, b2, b3, b4⟩, n => by
    have ih1 := pairs_has k x (t :: y) (s.f1 + 1) b (by simp only [List.length_cons] at h ⊢; omega) a4 ⟨b1, b2, b3, b4⟩ n
    have ih2 := pairs_has k (s :: x) y a (t.f1 + 1) (by simp only [List.length_cons] at h ⊢; omega) ⟨a1, a2, a3, a4⟩ b4 n
    have hx := fun c => mayF_has a4 n c
    have hy := fun c => mayF_has b4 n c
    have hc : ∀ rest : List (S31 × S31), hasS ((if max s.f0 t.f0 ≤ min s.f1 t.f1 then (s, t) :: rest else rest).map meetS) n = ((decide (max s.f0 t.f0 ≤ n) && decide (n ≤ min s.f1 t.f1)) || hasS (rest.map meetS) n) := fun rest => by
      by_cases c : max s.f0 t.f0 ≤ min s.f1 t.f1
      · rw [if_pos c, List.map_cons, hasS_cons]; rfl
      · rw [if_neg c]
        have : (decide (max s.f0 t.f0 ≤ n) && decide (n ≤ min s.f1 t.f1)) = false := by simp; omega
        rw [this, Bool.false_or]
    show hasS ((let rest := if s.f1 < t.f1 then pairsS k x (t :: y) else pairsS k (s :: x) y
      if max s.f0 t.f0 ≤ min s.f1 t.f1 then (s, t) :: rest else rest).map meetS) n = _
    dsimp only
    rw [hc]
    by_cases c : s.f1 < t.f1
    · rw [if_pos c, ih1, hasS_cons s, hasS_cons t, Bool.eq_iff_iff]
      cases p1 : hasS x n <;> cases p2 : hasS y n <;> simp [p1, p2] at hx hy ⊢ <;> omega
    · rw [if_neg c, ih2, hasS_cons s, hasS_cons t, Bool.eq_iff_iff]
      cases p1 : hasS x n <;> cases p2 : hasS y n <;> simp [p1, p2] at hx hy ⊢ <;> omega
/-- the gaps of a list, from a place on -/
def gapsF : Int → List S31 → List S31
  | a, [] => if a ≤ 16383 then [⟨a, 16383⟩] else []
  | a, s :: r => if a < s.f0 then ⟨a, s.f0 - 1⟩ :: gapsF (s.f1 + 1) r else gapsF (s.f1 + 1) r
theorem gaps_has : ∀ (l : List S31) (a b : Int), mayF b l → a - 1 ≤ b + 1 → b ≤ a → ∀ n, a ≤ n → n ≤ 16383 → hasS (gapsF a l) n = !hasS l n
  | [], a, b, _, _, _, n, h0, h1 => by
    unfold gapsF
    rw [if_pos (by omega)]
    simp [hasS]; omega
  | s :: r, a, b, ⟨m1, m2, m3, m4⟩, hab, hba, n, h0, h1 => by
    have hr := fun c => mayF_has m4 n c
    have low : ∀ (l : List S31) (c : Int), (∀ u ∈ l, c ≤ u.f0) → n < c → hasS l n = false := fun l c hu hc => by
      cases k : hasS l n with
      | false => rfl
      | true =>
        obtain ⟨u, hu1, hu2, _⟩ := (hasS_iff l n).1 k
        have := hu u hu1; omega
    have glow : ∀ (l : List S31) (c b : Int), mayF b l → c ≤ b + 1 → ∀ u ∈ gapsF c l, c ≤ u.f0 := by
      intro l
      induction l with
      | nil =>
        intro c b _ _ u hu
        unfold gapsF at hu
        split at hu
        · rw [List.mem_singleton.1 hu]; exact Int.le_refl _
        · cases hu
      | cons t q ih =>
        intro c b ⟨p1, p2, p3, p4⟩ hcb u hu
        unfold gapsF at hu
        have ih' := ih (t.f1 + 1) (t.f1 + 1) p4 (by omega) u
        split at hu
        · rcases List.mem_cons.1 hu with rfl | hu
          · exact Int.le_refl _
          · have := ih' hu; omega
        · have := ih' hu; omega
    unfold gapsF
    by_cases c : n ≤ s.f1
    · have g0 : hasS (gapsF (s.f1 + 1) r) n = false := low _ _ (glow r (s.f1 + 1) (s.f1 + 1) m4 (by omega)) (by omega)
      have r0 : hasS r n = false := by
        cases k : hasS r n with
        | false => rfl
        | true => have := hr k; omega
      split
      · rw [hasS_cons, hasS_cons, g0, r0, Bool.or_false, Bool.or_false, Bool.eq_iff_iff]
        simp; omega
      · rw [hasS_cons, g0, r0, Bool.or_false]
        have : (decide (s.f0 ≤ n) && decide (n ≤ s.f1)) = true := by simp; omega
        rw [this]; rfl
    · have ih := gaps_has r (s.f1 + 1) (s.f1 + 1) m4 (by omega) (by omega) n (by omega) h1
      have q0 : (decide (s.f0 ≤ n) && decide (n ≤ s.f1)) = false := by simp; omega
      split
      · rw [hasS_cons, hasS_cons, ih, q0, Bool.false_or]
        have : (decide (a ≤ n) && decide (n ≤ s.f0 - 1)) = false := by simp; omega
        rw [this, Bool.false_or]
      · rw [hasS_cons, ih, q0, Bool.false_or]
/-! How many slots. -/
def widS : List S31 → Int
  | [] => 0
  | s :: r => (s.f1 - s.f0 + 1) + widS r
def numS (p : Int → Bool) : Nat := (List.range 16384).countP fun n : Nat => p (n : Int)
theorem count_or (p q : Nat → Bool) (l : List Nat) (h : ∀ n ∈ l, ¬ (p n = true ∧ q n = true)) : l.countP (fun n => p n || q n) = l.countP p + l.countP q := by
  induction l with
  | nil => rfl
  | cons n l ih =>
    have ih := ih fun m hm => h m (List.mem_cons_of_mem _ hm)
    have hn := h n List.mem_cons_self
    rw [List.countP_cons, List.countP_cons, List.countP_cons, ih]
    cases hp : p n <;> cases hq : q n <;> simp [hp, hq] at hn ⊢ <;> omega
theorem count_span (a b : Int) (h0 : 0 ≤ a) (h1 : a ≤ b + 1) : ∀ N : Nat, ((List.range N).countP (fun n : Nat => decide (a ≤ (n : Int)) && decide ((n : Int) ≤ b)) : Int) = if (N : Int) ≤ a then 0 else if (N : Int) ≤ b + 1 then N - a else b + 1 - a
  | 0 => by simp; intro h; omega
  | N + 1 => by
    have ih := count_span a b h0 h1 N
    rw [List.range_succ, List.countP_append, List.countP_singleton]
    by_cases c : (decide (a ≤ (N : Int)) && decide ((N : Int) ≤ b)) = true
    · rw [if_pos c]
      simp at c
      split at ih <;> split <;> (try split) <;> (try split at ih) <;> push_cast <;> omega
    · rw [if_neg c]
      simp at c
      split at ih <;> split <;> (try split) <;> (try split at ih) <;> push_cast <;> omega
theorem wid_num : ∀ (l : List S31) (a : Int), mayF a l → -1 ≤ a → widS l = (numS (hasS l) : Nat)
  | [], a, _, _ => by unfold numS widS; simp [hasS]
  | s :: r, a, ⟨h1, h2, h3, h4⟩, ha => by
    have ih := wid_num r (s.f1 + 1) h4 (by omega)
    have hr := fun n => mayF_has h4 n
    have e : numS (hasS (s :: r)) = (List.range 16384).countP (fun n : Nat => decide (s.f0 ≤ (n : Int)) && decide ((n : Int) ≤ s.f1)) + numS (hasS r) := by
      unfold numS
      rw [← count_or _ _ _ (fun n _ hh => by have := hr n hh.2; simp at hh; omega)]
      rfl
    rw [widS, ih, e]
    have c := count_span s.f0 s.f1 (by omega) (by omega) 16384
    have k1 : ¬ ((16384 : Nat) : Int) ≤ s.f0 := by omega
    rw [if_neg k1] at c
    by_cases k2 : ((16384 : Nat) : Int) ≤ s.f1 + 1
    · rw [if_pos k2] at c
      have : s.f1 = 16383 := by omega
      push_cast
      omega
    · rw [if_neg k2] at c
      push_cast
      omega
theorem num_ext {p q : Int → Bool} (h : ∀ n, 0 ≤ n → n ≤ 16383 → p n = q n) : numS p = numS q := by
  unfold numS
  refine List.countP_congr fun n hn => ?_
  have := List.mem_range.1 hn
  rw [h n (by omega) (by omega)]
theorem num_or (p q : Int → Bool) (h : ∀ n, ¬ (p n = true ∧ q n = true)) : numS (fun n => p n || q n) = numS p + numS q := count_or _ _ _ fun n _ => h n
theorem num_one (k : Int) (h0 : 0 ≤ k) (h1 : k ≤ 16383) : numS (fun n => n == k) = 1 := by
  have c := count_span k k h0 (by omega) 16384
  have k1 : ¬ ((16384 : Nat) : Int) ≤ k := by omega
  rw [if_neg k1] at c
  have c : ((List.range 16384).countP (fun n : Nat => decide (k ≤ (n : Int)) && decide ((n : Int) ≤ k)) : Int) = 1 := by
    rw [c]; split <;> omega
  have e : numS (fun n => n == k) = (List.range 16384).countP (fun n : Nat => decide (k ≤ (n : Int)) && decide ((n : Int) ≤ k)) := by
    unfold numS
    refine List.countP_congr fun n _ => ?_
    simp; omega
  rw [e]; omega
theorem num_le (p : Int → Bool) : numS p ≤ 16384 := by
  unfold numS
  have := List.countP_le_length (p := fun n : Nat => p n) (l := List.range 16384)
  rwa [List.length_range] at this
end Go.Proofs.YtnlakdpfkgjdaaaDoor.G
