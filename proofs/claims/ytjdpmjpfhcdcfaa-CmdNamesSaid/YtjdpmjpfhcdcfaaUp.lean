import Derived.Test.YtjdpmjpfhcdcfaaProg
import Derived.Test.YtjdpmjpfhcdcfaaCavA
import Derived.Laws.IdiomStrings
namespace Go.Proofs.Ytjdpmjpfhcdcfaa
open Go.RowKit Go.Cav
attribute [local go_sem] Oper.semAt_some

def upC (c : UInt8) : UInt8 := if 97 ≤ c.toNat ∧ c.toNat ≤ 122 then UInt8.ofNat (c.toNat - 32) else c
def upB (s : ByteArray) : ByteArray := ⟨(s.data.toList.map upC).toArray⟩

set_option maxRecDepth 100000 in
set_option maxHeartbeats 4000000 in
theorem upper_calls (s : ByteArray) (w : World) (hs : s.size ≤ 9000000000000000000) : Calls Try.prog 22 #[.string s] w fun e w' => e = .returned (.string (upB s)) ∧ Below w.heap.size w w' := by
  have hc := run_bytes_of_string (P := Try.prog) w 9 37 5 s Try.underlying9 Try.underlying37 Try.underlying5
  generalize grownCap w s.size 0 5 = cp at hc
  generalize hw0 : w.drew.alloc _ = w0 at hc
  go_enter Try.func22, Try.ntmps22
  go_wp2
  go_loopw [10] (fun i wr => ∃ j : Nat, j ≤ s.size ∧ i = .int .i64 (j : Int) ∧ Below w.heap.size w wr ∧ (∀ k, k < s.size → wr.frozen? ⟨w.heap.size, k, none⟩ = false) ∧ ∀ k (hk : k < s.data.toList.length), wr.cell? ⟨w.heap.size, k, none⟩ = some (B8 (if k < j then upC (s.data.toList[k]) else s.data.toList[k]))) (fun i _ => (s.size - intOf i).toNat)
  case atStart => 
    refine ⟨0, by omega, rfl, ?_, ?_, ?_⟩
    · rw [← hw0]; exact ((Stir.refl (fun _ => False) w).drew.alloc _).below (Nat.le_refl _) (fun _ h => h.elim)
    · intro k hk
      rw [← hw0]
      have := World.frozen?_alloc_mark w.drew (bytesRow s cp) 5 (bytesRow s cp).size ((bytesRow s cp).size + 1) k
      refine Eq.trans this ?_
      have hb := bytesRow_at s cp k hk
      have hlt := (Array.getElem?_eq_some_iff.1 hb).1
      rw [decide_eq_false (by omega)]; rfl
    · intro k hk
      rw [← hw0]
      have hk' : k < s.data.size := by rw [Array.length_toList] at hk; exact hk
      have hb := bytesRow_at s cp k hk'
      simp only [Nat.not_lt_zero, if_false]
      have hh : (w.drew.alloc (.cells (bytesRow s cp) 5 ((bytesRow s cp).size, (bytesRow s cp).size + 1))).heap[w.heap.size]? = some (.cells (bytesRow s cp) 5 ((bytesRow s cp).size, (bytesRow s cp).size + 1)) := by
        show (w.heap.push _)[w.heap.size]? = _
        simp
      unfold World.cell?
      rw [hh]
      simp only
      exact hb
  case round =>
    obtain ⟨j, hj, rfl, hB, hfr, hcell⟩ := hrel
    have HF := Lib.hid hfr
    clear hfr
    have HI := Lib.hid hcell
    have HBB := Lib.hid hB
    clear hcell hB
    by_cases hjs : j < s.size
    · have hjl : j < s.data.toList.length := by rw [Array.length_toList]; exact hjs
      have j1 : (j : Int) < (s.size : Int) := by omega
      have j0 : (0 : Int) ≤ (j : Int) := by omega
      have cj := HI.out j hjl
      have fj := HF.out j hjs
      rw [if_neg (by omega)] at cj
      have e64 : wrap64 ((j : Int) + 1) = (j : Int) + 1 := by unfold wrap64; omega
      have E64 := Lib.hid e64
      clear e64
      generalize hce : s.data.toList[j] = c at cj
      by_cases h1 : (97 : Int) ≤ (c.toNat : Int)
      · by_cases h2 : (c.toNat : Int) ≤ 122
        · go_wp2
          go_roundw
          case rel =>
            refine ⟨j + 1, by omega, by simp, ?_, fun k hk => by rw [World.frozen?_setCell]; exact HF.out k hk, fun k hk => ?_⟩
            · exact (((Stir.of_below HBB.out (fun k => w.heap.size ≤ k)).setCell (fun h => Nat.le_refl _) _).below (Nat.le_refl _) (fun k hk => hk))
            · by_cases hkj : k = j
              · subst hkj
                rw [World.cell?_setCell_same (h := cj), if_pos (by omega)]
                subst hce
                refine congrArg some ?_
                show Value.int .u8 _ = Value.int .u8 _
                unfold upC
                rw [if_pos ⟨by omega, by omega⟩]
                congr 1
                rw [UInt8.toNat_ofNat', Nat.mod_eq_of_lt (by omega)]
                omega
              · rw [World.cell?_setCell_other (h := fun h => hkj (by injection h with _ h _; exact h.symm)), HI.out k hk]
                by_cases hlt : k < j
                · rw [if_pos hlt, if_pos (by omega)]
                · rw [if_neg hlt, if_neg (by omega)]
          case measure => simp [intOf]; omega
        · go_wp2
          go_roundw
          case rel =>
            refine ⟨j + 1, by omega, by simp, HBB.out, HF.out, fun k hk => ?_⟩
            rw [HI.out k hk]
            by_cases hkj : k = j
            · subst hkj
              rw [if_neg (by omega), if_pos (by omega)]
              unfold upC
              rw [hce, if_neg (fun h => by omega)]
            · by_cases hlt : k < j
              · rw [if_pos hlt, if_pos (by omega)]
              · rw [if_neg hlt, if_neg (by omega)]
          case measure => simp [intOf]; omega
      · go_wp2
        go_roundw
        case rel =>
          refine ⟨j + 1, by omega, by simp, HBB.out, HF.out, fun k hk => ?_⟩
          rw [HI.out k hk]
          by_cases hkj : k = j
          · subst hkj
            rw [if_neg (by omega), if_pos (by omega)]
            unfold upC
            rw [hce, if_neg (fun h => by omega)]
          · by_cases hlt : k < j
            · rw [if_pos hlt, if_pos (by omega)]
            · rw [if_neg hlt, if_neg (by omega)]
        case measure => simp [intOf]; omega
    · have j1 : ¬ (j : Int) < (s.size : Int) := by omega
      have hback := run_convert_bytes_back (P := Try.prog) wr 37 9 5 ⟨w.heap.size, 0, none⟩ cp (s.data.toList.map upC) Try.underlying37 Try.underlying5 Try.underlying9 (by
        intro k hk
        have hk' : k < s.data.toList.length := by simpa using hk
        have := HI.out k hk'
        have e : (⟨w.heap.size, 0, none⟩ : Addr).add k = ⟨w.heap.size, k, none⟩ := by simp [Addr.add]; exact fun h => h.symm
        rw [e, this, if_pos (by rw [Array.length_toList] at hk'; have : s.data.size = s.size := rfl; omega)]
        simp)
      have el : (s.data.toList.map upC).length = s.size := by rw [List.length_map, Array.length_toList]; rfl
      rw [el] at hback
      go_wp2
      go_ret
      exact ⟨rfl, HBB.out⟩
end Go.Proofs.Ytjdpmjpfhcdcfaa
