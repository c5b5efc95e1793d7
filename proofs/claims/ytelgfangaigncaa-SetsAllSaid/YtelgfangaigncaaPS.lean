/- Plain laws about rising lists of texts: what two have together, in common, without one another. No conditions. -/
import Derived.Test.YtelgfangaigncaaSC
import Derived.Test.YtelgfangaigncaaPK
namespace Go.Proofs.Ytelgfangaigncaa
open Go Go.RowKit

def Asc (l : List ByteArray) : Prop := l.Pairwise (fun x y => ltS x y = true)
theorem lt_trans {a b c : ByteArray} (h : ltS a b = true) (k : ltS b c = true) : ltS a c = true := Go.Pk.less_trans _ _ _ h k
theorem lt_irrefl (a : ByteArray) : ¬ ltS a a = true := by unfold ltS; rw [Go.Pk.less_irrefl]; simp
theorem lt_asymm {a b : ByteArray} (h : ltS a b = true) (k : ltS b a = true) : False := lt_irrefl _ (lt_trans h k)
theorem lt_tri (a b : ByteArray) : ltS a b = true ∨ a = b ∨ ltS b a = true := by
  rcases Go.Pk.less_total a.toList b.toList with h | h | h
  · exact .inl h
  · exact .inr (.inl (Go.Pk.toList_inj h))
  · exact .inr (.inr h)
theorem asc_ext : ∀ a b : List ByteArray, Asc a → Asc b → (∀ x, x ∈ a ↔ x ∈ b) → a = b
  | [], [], _, _, _ => rfl
  | [], y :: b, _, _, h => absurd ((h y).2 (by simp)) (by simp)
  | x :: a, [], _, _, h => absurd ((h x).1 (by simp)) (by simp)
  | x :: a, y :: b, ha, hb, h => by
    obtain ⟨a1, a2⟩ := List.pairwise_cons.1 ha
    obtain ⟨b1, b2⟩ := List.pairwise_cons.1 hb
    have hxy : x = y := by
      rcases List.mem_cons.1 ((h x).1 (by simp)) with e | e
      · exact e
      · rcases List.mem_cons.1 ((h y).2 (by simp)) with f | f
        · exact f.symm
        · exact (lt_asymm (b1 x e) (a1 y f)).elim
    subst hxy
    congr 1
    refine asc_ext a b a2 b2 fun z => ⟨fun hz => ?_, fun hz => ?_⟩
    · rcases List.mem_cons.1 ((h z).1 (List.mem_cons_of_mem _ hz)) with e | e
      · subst e; exact (lt_irrefl _ (a1 z hz)).elim
      · exact e
    · rcases List.mem_cons.1 ((h z).2 (List.mem_cons_of_mem _ hz)) with e | e
      · subst e; exact (lt_irrefl _ (b1 z hz)).elim
      · exact e
theorem Asc.nil : Asc [] := List.Pairwise.nil
theorem Asc.tail {x : ByteArray} {l : List ByteArray} (h : Asc (x :: l)) : Asc l := (List.pairwise_cons.1 h).2
theorem Asc.head {x : ByteArray} {l : List ByteArray} (h : Asc (x :: l)) : ∀ y ∈ l, ltS x y = true := (List.pairwise_cons.1 h).1

/-- what the walk over two rising lists tells -/
structure TwoIs (a b : List ByteArray) (t : List (ByteArray × Int)) : Prop where
  one : ∀ x w, (x, w) ∈ t → (w = 1 ∧ x ∈ a ∧ x ∉ b) ∨ (w = 2 ∧ x ∉ a ∧ x ∈ b) ∨ (w = 3 ∧ x ∈ a ∧ x ∈ b)
  all : ∀ x, x ∈ a ∨ x ∈ b → ∃ w, (x, w) ∈ t
  up : t.Pairwise (fun p q => ltS p.1 q.1 = true)

theorem twoL_is : ∀ a b : List ByteArray, Asc a → Asc b → TwoIs a b (twoL a b)
  | [], [], _, _ => by rw [twoL]; exact ⟨by simp, by simp, List.Pairwise.nil⟩
  | a :: r, [], ha, hb => by
    have ih := twoL_is r [] ha.tail hb
    rw [twoL]
    refine ⟨fun x w h => ?_, fun x h => ?_, List.pairwise_cons.2 ⟨fun p hp => ?_, ih.up⟩⟩
    · rcases List.mem_cons.1 h with e | e
      · cases e; exact .inl ⟨rfl, by simp, by simp⟩
      · rcases ih.one x w e with ⟨h1, h2, h3⟩ | ⟨_, _, h3⟩ | ⟨_, _, h3⟩
        · exact .inl ⟨h1, List.mem_cons_of_mem _ h2, h3⟩
        · simp at h3
        · simp at h3
    · rcases h with h | h
      · rcases List.mem_cons.1 h with rfl | e
        · exact ⟨1, by simp⟩
        · obtain ⟨w, hw⟩ := ih.all x (.inl e); exact ⟨w, List.mem_cons_of_mem _ hw⟩
      · simp at h
    · rcases ih.one p.1 p.2 hp with ⟨_, h2, _⟩ | ⟨_, _, h3⟩ | ⟨_, _, h3⟩
      · exact ha.head _ h2
      · simp at h3
      · simp at h3
  | [], b :: s, ha, hb => by
    have ih := twoL_is [] s ha hb.tail
    rw [twoL]
    refine ⟨fun x w h => ?_, fun x h => ?_, List.pairwise_cons.2 ⟨fun p hp => ?_, ih.up⟩⟩
    · rcases List.mem_cons.1 h with e | e
      · cases e; exact .inr (.inl ⟨rfl, by simp, by simp⟩)
      · rcases ih.one x w e with ⟨_, h2, _⟩ | ⟨h1, h2, h3⟩ | ⟨_, h2, _⟩
        · simp at h2
        · exact .inr (.inl ⟨h1, h2, List.mem_cons_of_mem _ h3⟩)
        · simp at h2
    · rcases h with h | h
      · simp at h
      · rcases List.mem_cons.1 h with rfl | e
        · exact ⟨2, by simp⟩
        · obtain ⟨w, hw⟩ := ih.all x (.inr e); exact ⟨w, List.mem_cons_of_mem _ hw⟩
    · rcases ih.one p.1 p.2 hp with ⟨_, h2, _⟩ | ⟨_, _, h3⟩ | ⟨_, h2, _⟩
      · simp at h2
      · exact hb.head _ h3
      · simp at h2
  | a :: r, b :: s, ha, hb => by
    rw [twoL]
    split
    case isTrue hq =>
      have ih := twoL_is r (b :: s) ha.tail hb
      have hnb : ∀ x, x ∈ b :: s → ltS a x = true := fun x hx => by
        rcases List.mem_cons.1 hx with rfl | e
        · exact hq
        · exact lt_trans hq (hb.head _ e)
      refine ⟨fun x w h => ?_, fun x h => ?_, List.pairwise_cons.2 ⟨fun p hp => ?_, ih.up⟩⟩
      · rcases List.mem_cons.1 h with e | e
        · cases e; exact .inl ⟨rfl, by simp, fun e => lt_irrefl _ (hnb _ e)⟩
        · rcases ih.one x w e with ⟨h1, h2, h3⟩ | ⟨h1, h2, h3⟩ | ⟨h1, h2, h3⟩
          · exact .inl ⟨h1, List.mem_cons_of_mem _ h2, h3⟩
          · refine .inr (.inl ⟨h1, fun e => ?_, h3⟩)
            rcases List.mem_cons.1 e with rfl | e
            · exact lt_irrefl _ (hnb _ h3)
            · exact h2 e
          · exact .inr (.inr ⟨h1, List.mem_cons_of_mem _ h2, h3⟩)
      · rcases h with h | h
        · rcases List.mem_cons.1 h with rfl | e
          · exact ⟨1, by simp⟩
          · obtain ⟨w, hw⟩ := ih.all x (.inl e); exact ⟨w, List.mem_cons_of_mem _ hw⟩
        · obtain ⟨w, hw⟩ := ih.all x (.inr h); exact ⟨w, List.mem_cons_of_mem _ hw⟩
      · rcases ih.one p.1 p.2 hp with ⟨_, h2, _⟩ | ⟨_, _, h3⟩ | ⟨_, h2, _⟩
        · exact ha.head _ h2
        · exact hnb _ h3
        · exact ha.head _ h2
    case isFalse hq =>
      split
      case isTrue he =>
        obtain rfl := Go.Pk.toList_inj he
        have ih := twoL_is r s ha.tail hb.tail
        refine ⟨fun x w h => ?_, fun x h => ?_, List.pairwise_cons.2 ⟨fun p hp => ?_, ih.up⟩⟩
        · rcases List.mem_cons.1 h with e | e
          · cases e; exact .inr (.inr ⟨rfl, by simp, by simp⟩)
          · rcases ih.one x w e with ⟨h1, h2, h3⟩ | ⟨h1, h2, h3⟩ | ⟨h1, h2, h3⟩
            · refine .inl ⟨h1, List.mem_cons_of_mem _ h2, fun e => ?_⟩
              rcases List.mem_cons.1 e with rfl | e
              · exact lt_irrefl _ (ha.head _ h2)
              · exact h3 e
            · refine .inr (.inl ⟨h1, fun e => ?_, List.mem_cons_of_mem _ h3⟩)
              rcases List.mem_cons.1 e with rfl | e
              · exact lt_irrefl _ (hb.head _ h3)
              · exact h2 e
            · exact .inr (.inr ⟨h1, List.mem_cons_of_mem _ h2, List.mem_cons_of_mem _ h3⟩)
        · rcases h with h | h
          · rcases List.mem_cons.1 h with rfl | e
            · exact ⟨3, by simp⟩
            · obtain ⟨w, hw⟩ := ih.all x (.inl e); exact ⟨w, List.mem_cons_of_mem _ hw⟩
          · rcases List.mem_cons.1 h with rfl | e
            · exact ⟨3, by simp⟩
            · obtain ⟨w, hw⟩ := ih.all x (.inr e); exact ⟨w, List.mem_cons_of_mem _ hw⟩
        · rcases ih.one p.1 p.2 hp with ⟨_, h2, _⟩ | ⟨_, _, h3⟩ | ⟨_, h2, _⟩
          · exact ha.head _ h2
          · exact hb.head _ h3
          · exact ha.head _ h2
      case isFalse he =>
        have hba : ltS b a = true := by
          rcases lt_tri a b with h | h | h
          · exact absurd h hq
          · exact absurd (congrArg ByteArray.toList h) he
          · exact h
        have ih := twoL_is (a :: r) s ha hb.tail
        have hna : ∀ x, x ∈ a :: r → ltS b x = true := fun x hx => by
          rcases List.mem_cons.1 hx with rfl | e
          · exact hba
          · exact lt_trans hba (ha.head _ e)
        refine ⟨fun x w h => ?_, fun x h => ?_, List.pairwise_cons.2 ⟨fun p hp => ?_, ih.up⟩⟩
        · rcases List.mem_cons.1 h with e | e
          · cases e; exact .inr (.inl ⟨rfl, fun e => lt_irrefl _ (hna _ e), by simp⟩)
          · rcases ih.one x w e with ⟨h1, h2, h3⟩ | ⟨h1, h2, h3⟩ | ⟨h1, h2, h3⟩
            · refine .inl ⟨h1, h2, fun e => ?_⟩
              rcases List.mem_cons.1 e with rfl | e
              · exact lt_irrefl _ (hna _ h2)
              · exact h3 e
            · exact .inr (.inl ⟨h1, h2, List.mem_cons_of_mem _ h3⟩)
            · exact .inr (.inr ⟨h1, h2, List.mem_cons_of_mem _ h3⟩)
        · rcases h with h | h
          · obtain ⟨w, hw⟩ := ih.all x (.inl h); exact ⟨w, List.mem_cons_of_mem _ hw⟩
          · rcases List.mem_cons.1 h with rfl | e
            · exact ⟨2, by simp⟩
            · obtain ⟨w, hw⟩ := ih.all x (.inr e); exact ⟨w, List.mem_cons_of_mem _ hw⟩
        · rcases ih.one p.1 p.2 hp with ⟨_, h2, _⟩ | ⟨_, _, h3⟩ | ⟨_, h2, _⟩
          · exact hna _ h2
          · exact hb.head _ h3
          · exact hna _ h2
termination_by a b => a.length + b.length

theorem mem_pickL {p : Int → Bool} {t : List (ByteArray × Int)} {x : ByteArray} : x ∈ pickL p t ↔ ∃ w, (x, w) ∈ t ∧ p w = true := by
  unfold pickL
  simp only [List.mem_map, List.mem_filter]
  constructor
  · rintro ⟨⟨y, w⟩, ⟨h1, h2⟩, rfl⟩; exact ⟨w, h1, h2⟩
  · rintro ⟨w, h1, h2⟩; exact ⟨(x, w), ⟨h1, h2⟩, rfl⟩
theorem asc_pickL (p : Int → Bool) {t : List (ByteArray × Int)} (h : t.Pairwise (fun p q => ltS p.1 q.1 = true)) : Asc (pickL p t) := by
  unfold Asc pickL
  rw [List.pairwise_map]
  exact h.filter _
abbrev pU (a b : List ByteArray) : List ByteArray := pickL (fun _ => true) (twoL a b)
abbrev pB (a b : List ByteArray) : List ByteArray := pickL (fun x => x == 3) (twoL a b)
abbrev pM (a b : List ByteArray) : List ByteArray := pickL (fun x => x == 1) (twoL a b)
theorem mem_pU {a b : List ByteArray} (ha : Asc a) (hb : Asc b) (x : ByteArray) : x ∈ pU a b ↔ x ∈ a ∨ x ∈ b := by
  have h := twoL_is a b ha hb
  rw [mem_pickL]
  constructor
  · rintro ⟨w, hw, _⟩; rcases h.one x w hw with ⟨_, h2, _⟩ | ⟨_, _, h3⟩ | ⟨_, h2, _⟩
    · exact .inl h2
    · exact .inr h3
    · exact .inl h2
  · intro hx; obtain ⟨w, hw⟩ := h.all x hx; exact ⟨w, hw, rfl⟩
theorem mem_pB {a b : List ByteArray} (ha : Asc a) (hb : Asc b) (x : ByteArray) : x ∈ pB a b ↔ x ∈ a ∧ x ∈ b := by
  have h := twoL_is a b ha hb
  rw [mem_pickL]
  constructor
  · rintro ⟨w, hw, e⟩
    obtain rfl : w = 3 := by simpa using e
    rcases h.one x 3 hw with ⟨h1, _⟩ | ⟨h1, _⟩ | ⟨_, h2, h3⟩
    · omega
    · omega
    · exact ⟨h2, h3⟩
  · rintro ⟨hx, hy⟩; obtain ⟨w, hw⟩ := h.all x (.inl hx); refine ⟨w, hw, ?_⟩
    rcases h.one x w hw with ⟨_, _, h3⟩ | ⟨_, h2, _⟩ | ⟨h1, _, _⟩
    · exact absurd hy h3
    · exact absurd hx h2
    · simp [h1]
theorem mem_pM {a b : List ByteArray} (ha : Asc a) (hb : Asc b) (x : ByteArray) : x ∈ pM a b ↔ x ∈ a ∧ x ∉ b := by
  have h := twoL_is a b ha hb
  rw [mem_pickL]
  constructor
  · rintro ⟨w, hw, e⟩
    obtain rfl : w = 1 := by simpa using e
    rcases h.one x 1 hw with ⟨_, h2, h3⟩ | ⟨h1, _⟩ | ⟨h1, _, _⟩
    · exact ⟨h2, h3⟩
    · omega
    · omega
  · rintro ⟨hx, hy⟩; obtain ⟨w, hw⟩ := h.all x (.inl hx); refine ⟨w, hw, ?_⟩
    rcases h.one x w hw with ⟨h1, _, _⟩ | ⟨_, h2, _⟩ | ⟨_, _, h3⟩
    · simp [h1]
    · exact absurd hx h2
    · exact absurd h3 hy
theorem asc_pU {a b : List ByteArray} (ha : Asc a) (hb : Asc b) : Asc (pU a b) := asc_pickL _ (twoL_is a b ha hb).up
theorem asc_pB {a b : List ByteArray} (ha : Asc a) (hb : Asc b) : Asc (pB a b) := asc_pickL _ (twoL_is a b ha hb).up
theorem asc_pM {a b : List ByteArray} (ha : Asc a) (hb : Asc b) : Asc (pM a b) := asc_pickL _ (twoL_is a b ha hb).up

/-- how many there are -/
theorem twoL_count : ∀ a b : List ByteArray, (pM a b).length + (pB a b).length = a.length ∧ (pU a b).length + (pB a b).length = a.length + b.length
  | [], [] => by simp [twoL, pickL]
  | a :: r, [] => by
    have ih := twoL_count r []
    simp only [pU, pB, pM, pickL, twoL] at ih ⊢
    simp at ih ⊢
    omega
  | [], b :: s => by
    have ih := twoL_count [] s
    simp only [pU, pB, pM, pickL, twoL] at ih ⊢
    simp at ih ⊢
    exact ⟨ih.1, by have := ih.2; omega⟩
  | a :: r, b :: s => by
    simp only [pU, pB, pM, pickL]
    rw [twoL]
    split
    · have ih := twoL_count r (b :: s)
      simp only [pU, pB, pM, pickL] at ih
      simp at ih ⊢
      omega
    · split
      · have ih := twoL_count r s
        simp only [pU, pB, pM, pickL] at ih
        simp at ih ⊢
        omega
      · have ih := twoL_count (a :: r) s
        simp only [pU, pB, pM, pickL] at ih
        simp at ih ⊢
        omega
termination_by a b => a.length + b.length
end Go.Proofs.Ytelgfangaigncaa
