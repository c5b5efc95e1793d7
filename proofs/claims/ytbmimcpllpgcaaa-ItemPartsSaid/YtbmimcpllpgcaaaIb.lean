/- What the iterator over an item's texts hands on. Conditions: a bound on their number. -/
import Derived.Test.YtbmimcpllpgcaaaIa
namespace Go.Proofs.Ytbmimcpllpgcaaa
open Go.RowKit Go.Shelf Go.Cav

attribute [local go_sem] Oper.semAt_some

/-- the texts of fields, in order -/
def fflat (l : List (ByteArray × ByteArray)) : List ByteArray := l.flatMap fun x => [x.1, x.2]
theorem fflat_length (l : List (ByteArray × ByteArray)) : (fflat l).length = 2 * l.length := by
  induction l with
  | nil => rfl
  | cons x l ih => have : fflat (x :: l) = [x.1, x.2] ++ fflat l := rfl; rw [this, List.length_append, ih, List.length_cons, List.length_cons, List.length_nil, List.length_cons]; omega
theorem fflat_snoc (l : List (ByteArray × ByteArray)) (x : ByteArray × ByteArray) : fflat (l ++ [x]) = fflat l ++ [x.1, x.2] := by simp [fflat]
theorem fflat_split (l : List (ByteArray × ByteArray)) (k : Nat) : fflat l = fflat (l.take k) ++ fflat (l.drop k) := by
  unfold fflat; rw [← List.flatMap_append, List.take_append_drop]

/-- all texts of an item -/
def allTexts (S : ByteArray) (fs : List (ByteArray × ByteArray)) (ls : List ByteArray) : List ByteArray := S :: (fflat fs ++ ls)

theorem fields_slice {w : World} {v : Value} {zs : List (ByteArray × ByteArray)} (h : FieldsAt w v zs) : ∃ a c, v = .slice a zs.length c ∧ ∀ i x, zs[i]? = some x → ∃ ad, a = some ad ∧ w.cell? (ad.add (i * 2)) = some (.string x.1) ∧ w.cell? (ad.add (i * 2 + 1)) = some (.string x.2) := by
  rcases h with ⟨c, rfl, rfl⟩ | ⟨a, c, rfl, hc⟩
  · exact ⟨none, c, rfl, fun i x hx => by simp at hx⟩
  · exact ⟨some a, c, rfl, fun i x hx => ⟨a, rfl, hc i x hx⟩⟩
theorem list_slice {w : World} {v : Value} {zs : List ByteArray} (h : ReadsA w 1 v zs.length (zs.map .string)) : ∃ a c, v = .slice a zs.length c ∧ ∀ i x, zs[i]? = some x → ∃ ad, a = some ad ∧ w.cell? (ad.add i) = some (.string x) := by
  rcases h.2 with ⟨c, rfl, h0⟩ | ⟨a, c, rfl, hc⟩
  · obtain rfl := List.eq_nil_of_length_eq_zero h0
    exact ⟨none, c, rfl, fun i x hx => by simp at hx⟩
  · exact ⟨some a, c, rfl, fun i x hx => ⟨a, rfl, hc i _ (by rw [List.getElem?_map, hx]; rfl)⟩⟩

set_option maxRecDepth 100000 in
set_option maxHeartbeats 4000000 in
theorem texts1_in (W : World) (F : Fence) (n : Nat) (h7 : F.fn 36) (hro : F.round = none) (hn : 1 ≤ n) (l Bs B : Nat) (T : Nat → Prop) (S : ByteArray) (fs : List (ByteArray × ByteArray)) (ls : List ByteArray) (fv lv : Value) (hreach : fs.length ≤ 10000000000) (hreach2 : ls.length ≤ 10000000000)
    (hTB : ¬ T Bs) (hTn : ∀ k, W.heap.size ≤ k → ¬ T k) (hTf : ∀ k, fv.ownBlock = some k → fs ≠ [] → ¬ T k) (hTl : ∀ k, lv.ownBlock = some k → ls ≠ [] → ¬ T k) (J Jx : List ByteArray → World → Prop)
    (hA : AbidesFrom W.heap.size J) (hY : ∀ pre x W, J pre W → pre.length < (allTexts S fs ls).length → YieldAt F (n - 1) Try.prog l #[.string x] W fun e W' =>
      (e = .returned (.bool true) ∧ J (pre ++ [x]) W' ∧ StirC B T W W') ∨ (e = .returned (.bool false) ∧ Jx (pre ++ [x]) W'))
    (hB1 : W.cell? ⟨Bs, 1, none⟩ = some (.string S)) (hB2 : W.cell? ⟨Bs, 2, none⟩ = some fv) (hB3 : W.cell? ⟨Bs, 3, none⟩ = some lv) (hF : FieldsAt W fv fs) (hL : ReadsA W 1 lv ls.length (ls.map .string)) (h0 : J [] W) :
    CallsIn F n Try.prog 36 #[.func (.yield l) #[] #[], .pointer (some ⟨Bs, 0, none⟩)] W fun e W' => (∃ v, e = .returned v) ∧
      ((∃ ys, ys = allTexts S fs ls ∧ J ys W') ∨ (∃ pre, pre <+: allTexts S fs ls ∧ Jx pre W')) := by
  have hlen : (allTexts S fs ls).length = 1 + 2 * fs.length + ls.length := by unfold allTexts; rw [List.length_cons, List.length_append, fflat_length]; omega
  obtain ⟨af, cf, rfl, hcf⟩ := fields_slice hF
  obtain ⟨al, cl, rfl, hcl⟩ := list_slice hL
  refine callsIn_of_wp Try.func36 rfl h7 ?_ hro
  simp only [Try.ntmps36, List.size_toArray, List.length_cons, List.length_nil, Nat.reduceAdd, Nat.reduceSub, Array.replicate_succ, Array.replicate_zero, List.push_toArray, List.append_toArray, List.nil_append, List.cons_append]
  obtain ⟨fn, tmps, assign, body, hy, hR⟩ := hY [] S W h0 (by rw [hlen]; simp; omega)
  gi_wp2
  refine hR.mono ?_
  rintro e W1 (⟨rfl, hJ1, hk1⟩ | ⟨rfl, hJx1⟩)
  · have d2 := hk1.cell hB2 hTB
    have d3 := hk1.cell hB3 hTB
    clear hR hy
    gi_wp2
    gi_loopw [15] (fun i wr => ∃ k : Nat, k ≤ fs.length ∧ i = .int .i64 k ∧ J (S :: fflat (fs.take k)) wr ∧ StirC B T W wr)
      (fun i _ => fs.length - (intOf i).toNat)
    case atStart => exact ⟨0, Nat.zero_le _, rfl, by simpa [fflat] using hJ1, hk1⟩
    case round =>
      obtain ⟨k, hk, rfl, hJs, hnx⟩ := hrel
      by_cases hlt : k < fs.length
      · obtain ⟨x, hx⟩ : ∃ x, fs[k]? = some x := ⟨_, List.getElem?_eq_getElem (by omega)⟩
        obtain ⟨ad, rfl, c0, c1⟩ := hcf k x hx
        have hb : ¬ T ad.block := hTf _ rfl (by rintro rfl; simp at hx)
        have hcx := hnx.cell c0 (by rw [add_block]; exact hb)
        have hcy := hnx.cell c1 (by rw [add_block]; exact hb)
        rw [add_at ad _ _ (by decide)] at hcy
        obtain ⟨s1, s2⟩ := x
        dsimp only at hcx hcy
        have hJa := hA _ _ (wr.alloc (.cells #[.string s1, .string s2] 29)) none hJs (grown_alloc _ _) (fun r e => by cases e)
        have hpl : (S :: fflat (fs.take k)).length = 1 + 2 * k := by rw [List.length_cons, fflat_length, List.length_take]; omega
        obtain ⟨fn, tmps, assign, body, hy, hR⟩ := hY _ s1 _ hJa (by rw [hpl, hlen]; omega)
        gi_wp2
        refine hR.mono ?_
        rintro e W3 (⟨rfl, hJ3, hk3⟩ | ⟨rfl, hJx3⟩)
        · have hbx : W3.cell? ⟨wr.heap.size, 1, none⟩ = some (.string s2) := hk3.cell (p := ⟨wr.heap.size, 1, none⟩) (by unfold World.cell?; rw [heap_alloc_new]; rfl) (by rw [show (⟨wr.heap.size, 1, none⟩ : Addr).block = wr.heap.size from rfl]; exact hTn _ (by have := hnx.size; omega))
          obtain ⟨fn', tmps', assign', body', hy', hR'⟩ := hY _ s2 _ hJ3 (by rw [List.length_append, hpl, hlen]; simp; omega)
          have htk : fflat (fs.take (k + 1)) = fflat (fs.take k) ++ [s1] ++ [s2] := by rw [List.take_add_one, hx]; simp [fflat]
          have HT := Lib.hid htk
          clear htk hx hR hy
          gi_wp2
          refine hR'.mono ?_
          rintro e W4 (⟨rfl, hJ4, hk4⟩ | ⟨rfl, hJx4⟩)
          · gi_wp2
            go_roundw
            case rel => exact ⟨k + 1, by omega, by simp, by rw [HT.out]; exact hJ4, ((hnx.alloc _).trans hk3).trans hk4⟩
            case measure => simp [intOf]; omega
          · gi_wp2
            refine bodyPost_ret (results_none rfl _ _ _) rfl ?_
            refine ⟨⟨_, rfl⟩, .inr ⟨_, ?_, hJx4⟩⟩
            have hsp := fflat_split fs (k + 1)
            rw [HT.out] at hsp
            exact ⟨fflat (fs.drop (k + 1)) ++ ls, by unfold allTexts; rw [hsp]; simp⟩
        · gi_wp2
          refine ⟨fun f h => (by cases h), ?_⟩
          gi_wp2
          refine bodyPost_ret (results_none rfl _ _ _) rfl ?_
          refine ⟨⟨_, rfl⟩, .inr ⟨_, ?_, hJx3⟩⟩
          have hsp := fflat_split fs (k + 1)
          rw [List.take_add_one, hx, Option.toList_some, fflat_snoc] at hsp
          exact ⟨[s2] ++ (fflat (fs.drop (k + 1)) ++ ls), by unfold allTexts; rw [hsp]; simp⟩
      · obtain rfl : k = fs.length := by omega
        rw [List.take_of_length_le (Nat.le_refl _)] at hJs
        have e3 := hnx.cell hB3 hTB
        gi_wp2
        gi_loopw [35] (fun i wr => ∃ k : Nat, k ≤ ls.length ∧ i = .int .i64 k ∧ J (S :: (fflat fs ++ ls.take k)) wr ∧ StirC B T W wr)
          (fun i _ => ls.length - (intOf i).toNat)
        case atStart => exact ⟨0, Nat.zero_le _, rfl, by simpa using hJs, hnx⟩
        case round =>
          obtain ⟨k, hk, rfl, hJs, hnx⟩ := hrel
          by_cases hlt : k < ls.length
          · obtain ⟨x, hx⟩ : ∃ x, ls[k]? = some x := ⟨_, List.getElem?_eq_getElem (by omega)⟩
            obtain ⟨ad, rfl, c0⟩ := hcl k x hx
            have hb : ¬ T ad.block := hTl _ rfl (by rintro rfl; simp at hx)
            have hcx := hnx.cell c0 (by rw [add_block]; exact hb)
            obtain ⟨fn, tmps, assign, body, hy, hR⟩ := hY _ x wr hJs (by rw [List.length_cons, List.length_append, fflat_length, List.length_take, hlen]; omega)
            have htk : (S :: (fflat fs ++ ls.take (k + 1))) = (S :: (fflat fs ++ ls.take k)) ++ [x] := by rw [List.take_add_one, hx]; simp
            have HT := Lib.hid htk
            clear htk hx
            gi_wp2
            refine hR.mono ?_
            rintro e W3 (⟨rfl, hJ3, hk3⟩ | ⟨rfl, hJx3⟩)
            · gi_wp2
              go_roundw
              case rel => exact ⟨k + 1, by omega, by simp, by rw [HT.out]; exact hJ3, hnx.trans hk3⟩
              case measure => simp [intOf]; omega
            · gi_wp2
              refine bodyPost_ret (results_none rfl _ _ _) rfl ?_
              refine ⟨⟨_, rfl⟩, .inr ⟨_, ?_, hJx3⟩⟩
              rw [← HT.out]
              exact ⟨ls.drop (k + 1), by unfold allTexts; simp⟩
          · obtain rfl : k = ls.length := by omega
            gi_wp2
            go_end0
            exact ⟨⟨_, rfl⟩, .inl ⟨_, rfl, by rw [List.take_of_length_le (Nat.le_refl _)] at hJs; exact hJs⟩⟩
  · gi_wp2
    refine bodyPost_ret (results_none rfl _ _ _) rfl ?_
    exact ⟨⟨_, rfl⟩, .inr ⟨_, ⟨fflat fs ++ ls, by simp [allTexts]⟩, hJx1⟩⟩

end Go.Proofs.Ytbmimcpllpgcaaa
