/- The document's reading of where a text sends is the code's. Condition: the text's length below 10^6. -/
import Derived.Test.YtijploopgmbhfaaDoorG2
import Derived.Test.YtijploopgmbhfaaDoorPNumR
import Derived.Test.YtijploopgmbhfaaDoorRd
namespace Go.Proofs.YtijploopgmbhfaaDoor.Pure
open Go.RowKit Go.Pk Go.Cav Go.Proofs.YtijploopgmbhfaaDoor.G Go.Proofs.YtijploopgmbhfaaDoorW.PrintWords Go.Proofs.YtijploopgmbhfaaDoorW.PrintLast
open Go.Lib (itoa)
def mk (l : List UInt8) : ByteArray := ⟨l.toArray⟩
theorem mk_data (s : ByteArray) : mk s.data.toList = s := rfl
theorem mk_of (l : List UInt8) : (mk l).data.toList = l := rfl
/-- what the document does behind its loop -/
def finR (k : Nat) (x3 : List ByteArray) : Option (ByteArray × Int × Int) :=
  if (x3.length : Int) = 3 then (if 0 < (x3.length : Int) then (if (rdOf ByteArray.empty x3 0).toList = ([77, 79, 86, 69, 68] : List UInt8) then (caravanref13_ReadRoute.j1 k x3 false) else (caravanref13_ReadRoute.j1 k x3 ((rdOf ByteArray.empty x3 0).toList != ([65, 83, 75] : List UInt8)))) else (none)) else (caravanref13_ReadRoute.j1 k x3 true)
theorem extract_mk (s : ByteArray) (a b : Nat) : s.extract a b = mk ((s.data.toList.drop a).take (b - a)) := by
  refine toList_inj ?_
  rw [toList_data, toList_data, mk_of, ByteArray.data_extract, Array.toList_extract]
theorem loop_run (s : ByteArray) (hs : s.size ≤ 1000000) : ∀ (n i fr : Nat) (x3 : List ByteArray) (k : Nat), i + n = s.size → fr ≤ i → (∀ j (hj : j < s.data.toList.length), fr ≤ j → j < i → s.data.toList[j] ≠ 32) → x3.length + n ≤ 2000000 →
    caravanref13_ReadRoute.l0 (k + 2 + n) s x3 (fr : Int) (i : Int) = finR k (x3 ++ (cutAt 32 (s.data.toList.drop fr)).map mk)
  | 0, i, fr, x3, k, hn, hf, hno, hl => by
    have hsz : s.data.toList.length = s.size := by rw [Array.length_toList]; rfl
    obtain rfl : i = s.size := by omega
    have hfree : (32 : UInt8) ∉ s.data.toList.drop fr := by
      intro h
      obtain ⟨j, hj, e⟩ := List.mem_iff_getElem.1 h
      rw [List.getElem_drop] at e
      rw [List.length_drop] at hj
      exact hno (fr + j) (by omega) (by omega) (by omega) e
    rw [cutAt_free 32 _ hfree]
    have ew : wrap64 ((s.size : Int) + 1) = ((s.size + 1 : Nat) : Int) := by unfold wrap64; omega
    rw [caravanref13_ReadRoute.l0, if_pos (by omega), if_pos rfl, if_pos (by omega), if_pos (by omega), if_pos (by omega), ew, caravanref13_ReadRoute.l0, if_neg (by omega)]
    have ex : s.extract (fr : Int).toNat (s.size : Int).toNat = mk (s.data.toList.drop fr) := by
      rw [Int.toNat_natCast, Int.toNat_natCast, extract_mk, List.take_of_length_le (by rw [List.length_drop]; omega)]
    rw [ex]
    rfl
  | n + 1, i, fr, x3, k, hn, hf, hno, hl => by
    have hsz : s.data.toList.length = s.size := by rw [Array.length_toList]; rfl
    have hi : i < s.data.toList.length := by omega
    have ew : wrap64 ((i : Int) + 1) = ((i + 1 : Nat) : Int) := by unfold wrap64; omega
    show caravanref13_ReadRoute.l0 ((k + 2 + n) + 1) s x3 (fr : Int) (i : Int) = _
    rw [caravanref13_ReadRoute.l0, if_pos (by omega), if_neg (by omega), if_pos (by omega), if_pos (by omega), bt_at s i hi, ew]
    by_cases h : s.data.toList[i] = 32
    · have h32 : ((s.data.toList[i]).toNat : Int) = 32 := by rw [h]; rfl
      rw [if_pos h32, if_pos (by omega), if_pos (by omega), if_pos (by omega), loop_run s hs n (i + 1) (i + 1) _ k (by omega) (by omega) (fun j _ a b => by omega) (by rw [List.length_append, List.length_singleton]; omega)]
      have hsplit : s.data.toList.drop fr = (s.data.toList.drop fr).take (i - fr) ++ 32 :: s.data.toList.drop (i + 1) := by
        conv => lhs; rw [← List.take_append_drop (i - fr) (s.data.toList.drop fr)]
        congr 1
        rw [List.drop_drop, show fr + (i - fr) = i by omega, List.drop_eq_getElem_cons hi, h]
      have hfree : (32 : UInt8) ∉ (s.data.toList.drop fr).take (i - fr) := by
        intro hm
        obtain ⟨j, hj, e⟩ := List.mem_iff_getElem.1 hm
        rw [List.getElem_take, List.getElem_drop] at e
        rw [List.length_take, List.length_drop] at hj
        exact hno (fr + j) (by omega) (by omega) (by omega) e
      conv => rhs; rw [hsplit, cutAt_app 32 _ _ hfree]
      have ex : s.extract (fr : Int).toNat (i : Int).toNat = mk ((s.data.toList.drop fr).take (i - fr)) := by
        rw [Int.toNat_natCast, Int.toNat_natCast, extract_mk]
      rw [ex, List.map_cons, List.append_assoc]
      rfl
    · have h32 : ¬ ((s.data.toList[i]).toNat : Int) = 32 := fun e => h (by
        have e2 : (s.data.toList[i]).toNat = 32 := by omega
        exact UInt8.toNat_inj.1 (by rw [e2]; rfl))
      rw [if_neg h32, loop_run s hs n (i + 1) fr x3 k (by omega) (by omega) (fun j hj a b => by
        by_cases e : j = i
        · subst e; exact h
        · exact hno j hj a (by omega)) (by omega)]
theorem pieces_mk (s : ByteArray) : pieces s = (cutAt 32 s.data.toList).map mk := by
  rw [← pieces_data, List.map_map]
  have : (mk ∘ fun x : ByteArray => x.data.toList) = id := rfl
  rw [this, List.map_id]
theorem ref_run (s : ByteArray) (hs : s.size ≤ 1000000) (k : Nat) : caravanref13_ReadRoute.f (k + 2 + s.size) s = finR k (pieces s) := by
  unfold caravanref13_ReadRoute.f
  have h := loop_run s hs s.size 0 0 [] k (by omega) (by omega) (fun j _ a b => by omega) (by simp; omega)
  rw [pieces_mk]
  simpa using h
theorem itoa_in (f : ByteArray) (h : numP f = none) (v : Int) (h0 : -9223372036854775808 ≤ v) (h1 : v ≤ 9223372036854775807) : itoaB v ≠ f := fun e => by
  have := numP_dstr v h0 h1
  rw [show dstr v = itoaB v from rfl, e, h] at this
  cases this
theorem atoiV_dstr (v : Int) (h0 : -9223372036854775808 ≤ v) (h1 : v ≤ 9223372036854775807) : atoiV (dstr v) = v := by
  unfold atoiV
  rw [dstr_data, atoi_itoa v h0 h1]
theorem itoaB_free (v : Int) : (32 : UInt8) ∉ (itoaB v).data.toList := fun h => by
  have := itoa_chars v 32 h
  revert this; decide
/-- three pieces with one blank between each are the text's pieces -/
theorem glue_iff (s f0 f1 f2 : ByteArray) (hp : pieces s = [f0, f1, f2]) (a b : Int) : f0 ++ ⟨#[32]⟩ ++ itoaB a ++ ⟨#[32]⟩ ++ itoaB b = s ↔ itoaB a = f1 ∧ itoaB b = f2 := by
  have hd : [f0.data.toList, f1.data.toList, f2.data.toList] = cutAt 32 s.data.toList := by rw [← pieces_data, hp]; rfl
  have hs : s.data.toList = f0.data.toList ++ 32 :: (f1.data.toList ++ 32 :: f2.data.toList) := by
    rw [← glue_cut 32 s.data.toList, ← hd]; rfl
  have hf0 : (32 : UInt8) ∉ f0.data.toList := cutAt_pieces 32 s.data.toList _ (by rw [← hd]; simp)
  have hL : (f0 ++ ⟨#[32]⟩ ++ itoaB a ++ ⟨#[32]⟩ ++ itoaB b).toList = f0.data.toList ++ 32 :: ((itoaB a).data.toList ++ 32 :: (itoaB b).data.toList) := by
    rw [toList_append, toList_append, toList_append, toList_append]
    simp only [toList_data, List.append_assoc]
    rfl
  constructor
  · intro e
    have e1 : f0.data.toList ++ 32 :: ((itoaB a).data.toList ++ 32 :: (itoaB b).data.toList) = s.data.toList := by rw [← hL, e, toList_data]
    have e2 := congrArg (cutAt 32) e1
    rw [cutAt_app 32 _ _ hf0, cutAt_app 32 _ _ (itoaB_free a), cutAt_free 32 _ (itoaB_free b), ← hd] at e2
    injection e2 with _ e2
    injection e2 with q1 e2
    injection e2 with q2 _
    exact ⟨toList_inj (by rw [toList_data, toList_data, q1]), toList_inj (by rw [toList_data, toList_data, q2])⟩
  · rintro ⟨rfl, rfl⟩
    refine toList_inj ?_
    rw [hL, toList_data, hs]
theorem rd0 (a b c : ByteArray) : rdOf ByteArray.empty [a, b, c] 0 = a := rfl
theorem rd1 (a b c : ByteArray) : rdOf ByteArray.empty [a, b, c] 1 = b := rfl
theorem rd2 (a b c : ByteArray) : rdOf ByteArray.empty [a, b, c] 2 = c := rfl
theorem piece_le (s p : ByteArray) (h : p ∈ pieces s) : p.size ≤ s.size := piece_size s p h
theorem len3 (a b c : ByteArray) : (([a, b, c] : List ByteArray).length : Int) = 3 := rfl
theorem j1_few (s : ByteArray) (k : Nat) (h : (pieces s).length ≠ 3) : finR (k + 1) (pieces s) = some (readP s) := by
  have e : readP s = (⟨#[]⟩, 0, 0) := by
    unfold readP
    split
    · rename_i h3; rw [h3] at h; exact absurd rfl h
    · rfl
  rw [e]
  unfold finR
  rw [if_neg (by omega), caravanref13_ReadRoute.j1, if_pos rfl]
/-- the document's answer of three pieces the first of which is a word -/
theorem j1_three (s f0 f1 f2 : ByteArray) (hs : s.size ≤ 1000000) (hp : pieces s = [f0, f1, f2]) (hw : f0 = ⟨#[77, 79, 86, 69, 68]⟩ ∨ f0 = ⟨#[65, 83, 75]⟩) (k : Nat) (hk : 1000100 ≤ k) : caravanref13_ReadRoute.j1 (k + 2) [f0, f1, f2] false = some (readP s) := by
  have z1 := piece_le s f1 (by rw [hp]; simp)
  have z2 := piece_le s f2 (by rw [hp]; simp)
  have e : readP s = readV s f0 f1 f2 := by unfold readP; rw [hp]
  have hg := glue_iff s f0 f1 f2 hp (atoiV f1) (atoiV f2)
  rw [e]
  unfold readV
  have n1 := number_ref f1 (by omega) (k + 1 - f1.size - 3) (by omega)
  rw [show k + 1 - f1.size - 3 + f1.size + 3 = k + 1 by omega] at n1
  have n2 := number_ref f2 (by omega) (k + 1 - f2.size - 3) (by omega)
  rw [show k + 1 - f2.size - 3 + f2.size + 3 = k + 1 by omega] at n2
  rw [caravanref13_ReadRoute.j1, if_neg (by simp), if_pos (by rw [len3]; decide), rd1, n1]
  simp only [Option.bind_some]
  rw [if_pos (by rw [len3]; decide), rd2, n2]
  simp only [Option.bind_some]
  have bad : ∀ (x y : Int) (b c : Bool), caravanref13_ReadRoute.j2 (k + 1) [f0, f1, f2] true x b y c = some (⟨#[]⟩, 0, 0) := fun x y b c => by rw [caravanref13_ReadRoute.j2, if_pos rfl]
  rcases numP_cases f1 with ⟨v1, a0, a1, h1, hv1⟩ | ⟨hno1, hv1⟩
  · rcases numP_cases f2 with ⟨v2, b0, b1, h2, hv2⟩ | ⟨hno2, hv2⟩
    · have t1 : atoiV f1 = v1 := by rw [h1]; exact atoiV_dstr v1 a0 a1
      have t2 : atoiV f2 = v2 := by rw [h2]; exact atoiV_dstr v2 b0 b1
      have hgl : f0 ++ ⟨#[32]⟩ ++ itoaB (atoiV f1) ++ ⟨#[32]⟩ ++ itoaB (atoiV f2) = s := hg.2 ⟨by rw [t1, h1]; rfl, by rw [t2, h2]; rfl⟩
      rw [hv1, hv2, t1, t2]
      rw [t1, t2] at hgl
      simp only [Option.getD_some, Option.isSome_some]
      rw [if_pos trivial]
      rw [if_pos trivial]
      by_cases q1 : v1 < 0
      · rw [if_pos q1, if_neg (fun h => by omega)]; exact bad _ _ _ _
      · rw [if_neg q1]
        by_cases q2 : v1 ≥ 16384
        · rw [if_pos q2, if_neg (fun h => by omega)]; exact bad _ _ _ _
        · rw [if_neg q2]
          by_cases q3 : v2 < 0
          · rw [if_pos q3, if_neg (fun h => by omega)]; exact bad _ _ _ _
          · rw [if_neg q3]
            by_cases q4 : v2 ≥ 8
            · rw [decide_eq_true q4, if_neg (fun h => by omega)]; exact bad _ _ _ _
            · rw [decide_eq_false q4, if_pos ⟨hw, by omega, by omega, by omega, by omega, hgl⟩]
              show caravanref13_ReadRoute.j2 (k + 1) [f0, f1, f2] false v1 true v2 true = _
              rw [caravanref13_ReadRoute.j2, if_neg (by simp), if_pos (by rw [len3]; decide), rd0]
    · have hno : ¬ ((f0 = ⟨#[77, 79, 86, 69, 68]⟩ ∨ f0 = ⟨#[65, 83, 75]⟩) ∧ 0 ≤ atoiV f1 ∧ atoiV f1 < 16384 ∧ 0 ≤ atoiV f2 ∧ atoiV f2 < 8 ∧ f0 ++ ⟨#[32]⟩ ++ itoaB (atoiV f1) ++ ⟨#[32]⟩ ++ itoaB (atoiV f2) = s) := fun h => by
        have b := atoiV_bounds f2
        exact itoa_in f2 hv2 _ b.1 b.2 (hg.1 h.2.2.2.2.2).2
      rw [if_neg hno, hv1, hv2]
      simp only [Option.getD_some, Option.isSome_some, Option.getD_none, Option.isSome_none]
      first | exact bad _ _ _ _ | (rw [if_pos trivial, if_neg (by simp)]; exact bad _ _ _ _)
  · have hno : ¬ ((f0 = ⟨#[77, 79, 86, 69, 68]⟩ ∨ f0 = ⟨#[65, 83, 75]⟩) ∧ 0 ≤ atoiV f1 ∧ atoiV f1 < 16384 ∧ 0 ≤ atoiV f2 ∧ atoiV f2 < 8 ∧ f0 ++ ⟨#[32]⟩ ++ itoaB (atoiV f1) ++ ⟨#[32]⟩ ++ itoaB (atoiV f2) = s) := fun h => by
      have b := atoiV_bounds f1
      exact itoa_in f1 hv1 _ b.1 b.2 (hg.1 h.2.2.2.2.2).1
    rw [if_neg hno, hv1]
    simp only [Option.getD_none, Option.isSome_none]
    first | exact bad _ _ _ _ | (rw [if_neg (by simp)]; exact bad _ _ _ _)
theorem read_ref (s : ByteArray) (hs : s.size ≤ 1000000) (k : Nat) (hk : 1000100 ≤ k) : finR (k + 2) (pieces s) = some (readP s) := by
  by_cases h : (pieces s).length = 3
  · obtain ⟨f0, f1, f2, h3⟩ : ∃ f0 f1 f2, pieces s = [f0, f1, f2] := by
      match hp : pieces s, h with
      | [a, b, c], _ => exact ⟨a, b, c, rfl⟩
    by_cases hM : f0 = ⟨#[77, 79, 86, 69, 68]⟩
    · rw [h3]
      unfold finR
      rw [if_pos (len3 _ _ _), if_pos (by rw [len3]; decide), rd0, if_pos (by rw [hM, toList_data])]
      exact j1_three s f0 f1 f2 hs h3 (.inl hM) k hk
    · by_cases hK : f0 = ⟨#[65, 83, 75]⟩
      · rw [h3]
        unfold finR
        rw [if_pos (len3 _ _ _), if_pos (by rw [len3]; decide), rd0, if_neg (fun e => hM (toList_inj (by rw [e, toList_data])))]
        rw [show ((f0.toList != ([65, 83, 75] : List UInt8)) = false) by rw [hK, toList_data]; rfl]
        exact j1_three s f0 f1 f2 hs h3 (.inr hK) k hk
      · have e : readP s = (⟨#[]⟩, 0, 0) := by
          unfold readP
          rw [h3]
          show readV s f0 f1 f2 = _
          unfold readV
          rw [if_neg (fun h => h.1.elim hM hK)]
        rw [h3, e]
        unfold finR
        rw [if_pos (len3 _ _ _), if_pos (by rw [len3]; decide), rd0, if_neg (fun e => hM (toList_inj (by rw [e, toList_data])))]
        have hb : (f0.toList != ([65, 83, 75] : List UInt8)) = true := bne_iff_ne.mpr (fun e => hK (toList_inj (by rw [e, toList_data])))
        rw [hb, caravanref13_ReadRoute.j1, if_pos rfl]
  · exact j1_few s (k + 1) h
/-- the document's reading -/
theorem ref_eq (s : ByteArray) (hs : s.size ≤ 1000000) (k : Nat) (hk : 1000200 + s.size ≤ k) : caravanref13_ReadRoute.f k s = some (readP s) := by
  have h := ref_run s hs (k - 2 - s.size)
  rw [show k - 2 - s.size + 2 + s.size = k by omega] at h
  rw [h, show k - 2 - s.size = (k - 4 - s.size) + 2 by omega]
  exact read_ref s hs _ (by omega)
end Go.Proofs.YtijploopgmbhfaaDoor.Pure
