/- slot.Of and slot.One over any texts. Conditions: each text's length below 10^9; the library's switch is a number. -/
import Derived.Test.YtijploopgmbhfaaDoorSlB
namespace Go.Proofs.YtijploopgmbhfaaDoor
open Go.RowKit Go.Cav
attribute [local go_sem] Oper.semAt_some
/-- a key's slot -/
def slotN (s : ByteArray) : Nat := crcN (tagL s.data.toList) % 16384
theorem slotN_lt (s : ByteArray) : slotN s < 16384 := Nat.mod_lt _ (by decide)
/-- the library's switch is a number -/
def Most (w : World) : Prop := ∃ m, w.cell? ⟨2, 0, none⟩ = some (.int .i64 m)
theorem Most.of {w w' : World} (h : Most w) (hb : Below w.heap.size w w') : Most w' := by
  obtain ⟨m, h1⟩ := h
  exact ⟨m, (Stir.of_below hb (fun _ => False)).cell h1 (fun e => e)⟩
theorem below_drewN (w : World) (n : Nat) : Below w.heap.size w (w.drewN n) := ((Stir.refl (fun _ => False) w).drewN n).below (Nat.le_refl _) (fun _ h => h.elim)
set_option maxRecDepth 100000 in
set_option maxHeartbeats 4000000 in
theorem of_calls (s : ByteArray) (hs : s.size ≤ 1000000000) (w : World) (hm : Most w) :
    Calls Tryd.prog 48 #[.string s] w fun e w' => e = .returned (.int .i64 (slotN s : Nat)) ∧ Below w.heap.size w w' := by
  obtain ⟨m, hm⟩ := hm
  have hT := tag_calls s hs w m hm
  have hl : (tagB s).size ≤ 1000000000 := by
    have h1 := tagL_len s.data.toList
    rw [Array.length_toList (xs := s.data)] at h1
    have e : s.size = s.data.size := rfl
    have e2 : (tagB s).size = (tagL s.data.toList).length := rfl
    omega
  have hb0 : ∀ n (o : Obj), Below w.heap.size w ((w.drewN n).drew.alloc o) := fun n o => (((Stir.refl (fun _ => False) w).drewN n).drew.alloc o).below (Nat.le_refl _) (fun _ h => h.elim)
  have hv : ((slotN s : Nat) : Int) = ((crcN (tagB s).data.toList : Nat) : Int) % 16384 := by
    have e : slotN s = crcN (tagB s).data.toList % 16384 := rfl
    rw [e]; omega
  generalize tagB s = t at hT hl hv
  have HV := Lib.hid hv
  have HB := Lib.hid hb0
  have lt := crcN_lt t.data.toList
  clear hm hv hb0
  go_enter Tryd.func48, Tryd.ntmps48
  go_wp2_with fail
  refine hT.mono ?_
  rintro e w1 ⟨rfl, n, rfl⟩
  clear hT
  have hc : (convert 9 50 (.string t)).run Tryd.prog (w.drewN n) = .ok (.slice (some ⟨w.heap.size, 0, none⟩) t.size (grownCap (w.drewN n) t.size 0 5)) ((w.drewN n).drew.alloc (.cells (bytesRow t (grownCap (w.drewN n) t.size 0 5)) 5 ((bytesRow t (grownCap (w.drewN n) t.size 0 5)).size, (bytesRow t (grownCap (w.drewN n) t.size 0 5)).size + 1))) := run_bytes_of_string (P := Tryd.prog) (w.drewN n) 9 50 5 t Tryd.underlying9 Tryd.underlying50 Tryd.underlying5
  generalize grownCap (w.drewN n) t.size 0 5 = cp at hc
  have hcr : Calls Tryd.prog 60 #[.slice (some ⟨w.heap.size, 0, none⟩) t.size cp] ((w.drewN n).drew.alloc (.cells (bytesRow t cp) 5 ((bytesRow t cp).size, (bytesRow t cp).size + 1))) fun e w' => e = .returned (.int .i64 (crcN t.data.toList : Nat)) ∧ (w.drewN n).drew.alloc (.cells (bytesRow t cp) 5 ((bytesRow t cp).size, (bytesRow t cp).size + 1)) = w' := by
    have e : t.size = t.data.toList.length := by rw [Array.length_toList]; rfl
    have key := fun hcell => crc_calls ⟨w.heap.size, 0, none⟩ cp t.data.toList ((w.drewN n).drew.alloc (.cells (bytesRow t cp) 5 ((bytesRow t cp).size, (bytesRow t cp).size + 1))) (by omega) hcell
    rw [← e] at key
    refine key fun j u hu => ?_
    rw [List.getElem?_map, Option.map_eq_some_iff] at hu
    obtain ⟨b, hb, rfl⟩ := hu
    obtain ⟨hj, rfl⟩ := List.getElem?_eq_some_iff.1 hb
    have hj' : j < t.data.size := by rw [Array.length_toList] at hj; exact hj
    have h1 := bytesRow_at t cp j hj'
    have hh : ((w.drewN n).drew.alloc (.cells (bytesRow t cp) 5 ((bytesRow t cp).size, (bytesRow t cp).size + 1))).heap[w.heap.size]? = some (.cells (bytesRow t cp) 5 ((bytesRow t cp).size, (bytesRow t cp).size + 1)) := heap_alloc_new (w.drewN n).drew _
    have ea : (⟨w.heap.size, 0, none⟩ : Addr).add j = ⟨w.heap.size, j, none⟩ := by simp [Addr.add]; exact fun h => h.symm
    rw [ea]
    unfold World.cell?
    rw [hh]
    exact h1
  have hB := HB.out n (.cells (bytesRow t cp) 5 ((bytesRow t cp).size, (bytesRow t cp).size + 1))
  generalize (w.drewN n).drew.alloc (.cells (bytesRow t cp) 5 ((bytesRow t cp).size, (bytesRow t cp).size + 1)) = w1 at hc hcr hB
  have HB1 := Lib.hid hB
  clear hB HB
  go_wp2_with fail
  refine hcr.mono ?_
  rintro e w2 ⟨rfl, rfl⟩
  clear hcr hc
  go_wp2_with fail
  go_ret
  exact ⟨by rw [HV.out]; rfl, HB1.out⟩
end Go.Proofs.YtijploopgmbhfaaDoor
