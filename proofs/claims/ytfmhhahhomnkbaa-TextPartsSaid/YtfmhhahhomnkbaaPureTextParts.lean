/- A text's two parts side by side are the text, from the end or from the beginning: proved for every text and every place; no condition beyond the form's own reach. -/
import Derived.Test.YtfmhhahhomnkbaaPTextPartsx1
namespace Go.Proofs.Ytfmhhahhomnkbaa.Pure
open Go.RowKit Go.Proofs.Ytfmhhahhomnkbaa.PTextParts Go.Proofs.YtfmhhahhomnkbaaW.PrintWords Go.Proofs.YtfmhhahhomnkbaaW.PrintLast

theorem w64_in {x : Int} (h0 : -9223372036854775808 ≤ x) (h1 : x ≤ 9223372036854775807) : wrap64 x = x := by
  unfold wrap64; omega

/-- the place from which is told, and behind the last one -/
def from_ (n a : Int) : Int := if a < 0 then (if a + n < 0 then 0 else a + n) else a
def to_ (n b : Int) : Int := if (if b < 0 then b + n else b) < n - 1 then (if b < 0 then b + n else b) + 1 else n

theorem j0_tells (k : Nat) (n a b : Int) (hn0 : 0 ≤ n) (hn : n ≤ 4000) (hb : -4000 ≤ b) (hb' : b ≤ 4000) :
    text_Range.j0 (k + 1) n a b = some (if (if a < 0 then 0 else a) ≥ to_ n b then (0, 0) else (if a < 0 then 0 else a, to_ n b)) := by
  have hm : mx a 0 = if a < 0 then 0 else a := rfl
  have fin : ∀ (F T : Int), (if F ≥ T then some ((0, 0) : Int × Int) else some (F, T)) = some (if F ≥ T then (0, 0) else (F, T)) := by
    intro F T; split <;> rfl
  simp only [text_Range.j0]
  by_cases g : b < 0
  · have e : wrap64 (mn (wrap64 (b + n)) (wrap64 (n - 1)) + 1) = to_ n b := by
      rw [w64_in (x := b + n) (by omega) (by omega), w64_in (x := n - 1) (by omega) (by omega)]
      unfold mn to_
      rw [w64_in (by split <;> omega) (by split <;> omega)]; split <;> split <;> omega
    rw [if_pos g, e, hm, fin]
  · have e : wrap64 (mn b (wrap64 (n - 1)) + 1) = to_ n b := by
      rw [w64_in (x := n - 1) (by omega) (by omega)]
      unfold mn to_
      rw [w64_in (by split <;> omega) (by split <;> omega)]; split <;> split <;> omega
    rw [if_neg g, e, hm, fin]

theorem range_tells (k : Nat) (n a b : Int) (hn0 : 0 ≤ n) (hn : n ≤ 4000) (ha : -4000 ≤ a) (ha' : a ≤ 4000) (hb : -4000 ≤ b) (hb' : b ≤ 4000) :
    text_Range.f (k + 1) n a b = some (if from_ n a ≥ to_ n b then (0, 0) else (from_ n a, to_ n b)) := by
  unfold text_Range.f
  by_cases h : a < 0
  · rw [if_pos h, w64_in (by omega) (by omega), j0_tells k n _ b hn0 hn hb hb']
    have : from_ n a = if a + n < 0 then 0 else a + n := by unfold from_; rw [if_pos h]
    rw [this]
  · rw [if_neg h, j0_tells k n _ b hn0 hn hb hb']
    have : from_ n a = if a < 0 then 0 else a := by unfold from_; rw [if_neg h, if_neg h]
    rw [this]

theorem sub_tells (k : Nat) (s : ByteArray) (a b f t : Int) (hn : s.size ≤ 4000) (ha : -4000 ≤ a) (ha' : a ≤ 4000) (hb : -4000 ≤ b) (hb' : b ≤ 4000)
    (hf : from_ s.size a = f) (ht : to_ s.size b = t) (h0 : 0 ≤ f) (h1 : f < t) (h2 : t ≤ s.size) :
    text_Sub.f (k + 1) s a b = some (s.extract f.toNat t.toNat) := by
  unfold text_Sub.f
  rw [range_tells k _ a b (by omega) (by omega) ha ha' hb hb', hf, ht, if_neg (by omega)]
  simp only [Option.bind_some]
  rw [if_pos h0, if_pos (by omega), if_pos h2]

theorem sub_none (k : Nat) (s : ByteArray) (a b f t : Int) (hn : s.size ≤ 4000) (ha : -4000 ≤ a) (ha' : a ≤ 4000) (hb : -4000 ≤ b) (hb' : b ≤ 4000)
    (hf : from_ s.size a = f) (ht : to_ s.size b = t) (h1 : t ≤ f) :
    text_Sub.f (k + 1) s a b = some (s.extract 0 0) := by
  unfold text_Sub.f
  rw [range_tells k _ a b (by omega) (by omega) ha ha' hb hb', hf, ht, if_pos (by omega)]
  simp only [Option.bind_some]
  rw [if_pos (by omega), if_pos (by omega), if_pos (by omega)]
  rfl

theorem awake_tells (k : Nat) : caravanlaw6_awake.f (k + 1) = some true := by
  unfold caravanlaw6_awake.f
  rw [sub_tells k _ (-2) (-1) 1 3 (by decide) (by omega) (by omega) (by omega) (by omega) (by decide) (by decide) (by omega) (by omega) (by decide)]
  simp only [Option.bind_some]
  exact congrArg some (by decide +kernel)

theorem size_pos_of {s : ByteArray} (h : ¬ s.toList = []) : 0 < s.size := by
  rcases Nat.eq_zero_or_pos s.size with e | e
  · exfalso; apply h
    have : s = ByteArray.empty := ByteArray.ext (by
      have : s.data.size = 0 := e
      simpa using Array.eq_empty_of_size_eq_zero this)
    rw [this]; decide +kernel
  · exact e

theorem extract_all (s : ByteArray) : s.extract 0 s.size = s := by
  apply ByteArray.ext; simp

theorem TextParts : caravanlaw6_TextParts.Pure := by
  intro s a1 hs wa
  have hb : 0 ≤ a1 ∧ a1 ≤ 65535 := by
    simp only [Lit.wf] at wa
    revert wa; simp [IntKind.min, IntKind.max, IntKind.signed, IntKind.bits]
  obtain ⟨hb0, hb1⟩ := hb
  refine ⟨2, ?_⟩
  unfold caravanlaw6_TextParts.f
  by_cases he : s.toList = []
  · rw [if_pos he]
    simp only [caravanlaw6_TextParts.j0]
    rw [if_pos trivial, awake_tells]; rfl
  · rw [if_neg he]
    have hp := size_pos_of he
    by_cases hl : (s.size : Int) > 300
    · simp only [caravanlaw6_TextParts.j0]
      rw [if_pos (decide_eq_true hl), awake_tells]; rfl
    · have hw : wrap64 a1 = a1 := w64_in (by omega) (by omega)
      have ht0 : 0 ≤ Int.tmod a1 s.size := Int.tmod_nonneg _ hb0
      have ht1 : Int.tmod a1 s.size < s.size := Int.tmod_lt_of_pos _ (by omega)
      simp only [caravanlaw6_TextParts.j0]
      rw [if_neg (by simp [hl]), if_neg (by omega), hw]
      obtain ⟨t, ht⟩ : ∃ t : Int, Int.tmod a1 s.size = t := ⟨_, rfl⟩
      rw [ht] at ht0 ht1 ⊢
      rw [w64_in (x := t + 1) (by omega) (by omega), w64_in (x := t - s.size) (by omega) (by omega)]
      have e1 : text_Sub.f 1 s 0 t = some (s.extract 0 (t + 1).toNat) :=
        sub_tells 0 s 0 t 0 (t + 1) (by omega) (by omega) (by omega) (by omega) (by omega) (by simp [from_]) (by unfold to_; rw [if_neg (by omega : ¬ t < 0)]; split <;> omega) (by omega) (by omega) (by omega)
      have e2 : text_Sub.f 1 s (t + 1) (-1) = some (s.extract (t + 1).toNat s.size) := by
        by_cases hlast : t + 1 < s.size
        · have := sub_tells 0 s (t + 1) (-1) (t + 1) s.size (by omega) (by omega) (by omega) (by omega) (by omega) (by unfold from_; rw [if_neg (by omega)]) (by unfold to_; simp; first | omega | (split <;> omega)) (by omega) (by omega) (by omega)
          simpa using this
        · have := sub_none 0 s (t + 1) (-1) (t + 1) s.size (by omega) (by omega) (by omega) (by omega) (by omega) (by unfold from_; rw [if_neg (by omega)]) (by unfold to_; simp; first | omega | (split <;> omega)) (by omega)
          rw [this]
          have e : (t + 1).toNat = s.size := by omega
          rw [e]; apply congrArg some; apply ByteArray.ext; simp
      have e3 : text_Sub.f 1 s (t - s.size) (-1) = some (s.extract t.toNat s.size) := by
        have := sub_tells 0 s (t - s.size) (-1) t s.size (by omega) (by omega) (by omega) (by omega) (by omega) (by unfold from_; rw [if_pos (by omega)]; split <;> omega) (by unfold to_; simp; first | omega | (split <;> omega)) (by omega) (by omega) (by omega)
        simpa using this
      have e4 : text_Sub.f 1 s 0 (-1) = some (s.extract 0 s.size) := by
        have := sub_tells 0 s 0 (-1) 0 s.size (by omega) (by omega) (by omega) (by omega) (by omega) (by simp [from_]) (by unfold to_; simp; first | omega | (split <;> omega)) (by omega) (by omega) (by omega)
        simpa using this
      have e5 : text_Sub.f 1 s (-1000) 1000 = some (s.extract 0 s.size) := by
        have := sub_tells 0 s (-1000) 1000 0 s.size (by omega) (by omega) (by omega) (by omega) (by omega) (by unfold from_; simp; omega) (by unfold to_; simp; first | omega | (split <;> omega)) (by omega) (by omega) (by omega)
        simpa using this
      have e6 : text_Sub.f 1 s (t + 1) t = some (s.extract 0 0) :=
        sub_none 0 s (t + 1) t (t + 1) (t + 1) (by omega) (by omega) (by omega) (by omega) (by omega) (by unfold from_; rw [if_neg (by omega)]) (by unfold to_; rw [if_neg (by omega : ¬ t < 0)]; split <;> omega) (by omega)
      rw [e1, e2, e3, e4, e5, e6, awake_tells]
      simp only [Option.bind_some]
      have j1 : s.extract 0 (t + 1).toNat ++ s.extract (t + 1).toNat s.size = s := by
        apply ByteArray.ext
        simp only [ByteArray.data_append, ByteArray.data_extract]
        rw [Array.extract_append_extract]
        have : min 0 (t + 1).toNat = 0 := by omega
        rw [this, Nat.max_eq_right (by omega)]
        exact Array.extract_size
      have j2 : ((s.extract 0 (t + 1).toNat).size : Int) = t + 1 := by
        rw [ByteArray.size_extract]; omega
      have j3 : (s.extract 0 (t + 1).toNat).size + (s.extract (t + 1).toNat s.size).size ≤ 9223372036854775807 := by
        rw [ByteArray.size_extract, ByteArray.size_extract]; omega
      rw [if_pos j3, j1, if_pos rfl, if_pos j2, if_pos ht0, if_pos (by omega), if_pos trivial, extract_all, if_pos rfl, if_pos rfl]
      rw [if_pos (by
        have : s.extract 0 0 = ByteArray.empty := by apply ByteArray.ext; simp
        rw [this]; decide +kernel)]

end Go.Proofs.Ytfmhhahhomnkbaa.Pure
