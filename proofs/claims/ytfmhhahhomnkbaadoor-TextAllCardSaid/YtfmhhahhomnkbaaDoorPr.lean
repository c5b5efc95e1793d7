/- What the document's Put answers. Condition: the texts' lengths below 10^9. -/
import Derived.Test.YtfmhhahhomnkbaaDoorPt
import Derived.Test.YtfmhhahhomnkbaaDoorG0
import Derived.Laws.Rows
import Derived.Outline
namespace Go.Proofs.YtfmhhahhomnkbaaDoor
open Go.RowKit Go.Cav Go.Proofs.YtfmhhahhomnkbaaDoorW.PrintWords
attribute [local go_sem] Oper.semAt_some
theorem setCells_far {w : World} (b : Nat) {g' : Nat} (hne : g' ≠ b) (vs : List Value) (o : Nat) : (w.setCells b o vs).heap[g']? = w.heap[g']? := by
  induction vs generalizing o w with
  | nil => rfl
  | cons v r ih => exact (ih (o + 1)).trans (Below.heap_setCell w ⟨b, o, none⟩ v g' hne)
theorem stir_setCells {S : Nat → Prop} {a : World} (g : Nat) (hg : g < a.heap.size → S g) (vs : List Value) (o : Nat) (b : World) (h : Stir S a b) : Stir S a (b.setCells g o vs) := by
  induction vs generalizing o b with
  | nil => exact h
  | cons v r ih => exact ih (o + 1) _ (h.setCell (p := ⟨g, o, none⟩) hg v)
def sliceLen : Value → Nat
  | .slice _ n _ => n
  | _ => 0
set_option maxRecDepth 100000 in
set_option maxHeartbeats 4000000 in
theorem putr_out (s v : ByteArray) (k : Int) (w : World) (hv : v.size ≤ 1000000000) (h : k < 0 ∨ 300 < k ∨ 300 < k + (v.size : Int)) :
    Calls Tryd.prog 13 #[.string s, .int .i64 k, .string v] w fun e w' => e = .returned (.agg #[.string ⟨#[]⟩, .bool false]) ∧ Below w.heap.size w w' := by
  by_cases h0 : k < 0
  · go_enter Tryd.func13, Tryd.ntmps13
    go_wp2_with ((with_reducible refine gate_dst (N := 6) rfl ?_); (try (refine gate_guard (by rfl) ?_; dsimp only)); refine box_event ?hg (N := 6) ?hd (cs := #[.string (⟨#[]⟩ : ByteArray), .bool false]) (t := 37) ?hr ?_; (case hd => rfl); (case hg => rfl); (case hr => first | (go_simp; done) | (go_simp; rfl)); intro gb hg w1 hbox hb; have BK := Aside0.mk hbox; have HB := Lib.hid hb; have GW : w.heap.size ≤ gb := by { rw [hg]; exact Nat.le_refl _ }; clear hg hb hbox; have q0 : w1.cell? ⟨gb, 0, none⟩ = some (.string (⟨#[]⟩ : ByteArray)) := (blk_cell BK.out 0).trans rfl; have q1 : w1.cell? ⟨gb, 1, none⟩ = some (.bool false) := (blk_cell BK.out 1).trans rfl; have f0 := blk_frozen BK.out 0; have f1 := blk_frozen BK.out 1)
    refine bodyPost_ret (results_cell_row rfl _ _ gb 37 #[.string (⟨#[]⟩ : ByteArray), .bool false] (0, 0) _ rfl (by (refine blk_put (cs := #[.string (⟨#[]⟩ : ByteArray), .bool false]) ?_ 1 _ rfl; refine blk_put (cs := #[.string (⟨#[]⟩ : ByteArray), .bool false]) ?_ 0 _ rfl; exact BK.out)) Tryd.underlying37 rfl (by kernel_rfl)) rfl ?_
    exact ⟨rfl, ((Stir.of_below HB.out (fun k => w.heap.size ≤ k)).setCell (fun _ => GW) _).setCell (fun _ => GW) _ |>.below (Nat.le_refl _) (fun _ h => h)⟩
  · by_cases h1 : 300 < k
    · have h0' : 0 ≤ k := by omega
      go_enter Tryd.func13, Tryd.ntmps13
      go_wp2_with ((with_reducible refine gate_dst (N := 6) rfl ?_); (try (refine gate_guard (by rfl) ?_; dsimp only)); refine box_event ?hg (N := 6) ?hd (cs := #[.string (⟨#[]⟩ : ByteArray), .bool false]) (t := 37) ?hr ?_; (case hd => rfl); (case hg => rfl); (case hr => first | (go_simp; done) | (go_simp; rfl)); intro gb hg w1 hbox hb; have BK := Aside0.mk hbox; have HB := Lib.hid hb; have GW : w.heap.size ≤ gb := by { rw [hg]; exact Nat.le_refl _ }; clear hg hb hbox; have q0 : w1.cell? ⟨gb, 0, none⟩ = some (.string (⟨#[]⟩ : ByteArray)) := (blk_cell BK.out 0).trans rfl; have q1 : w1.cell? ⟨gb, 1, none⟩ = some (.bool false) := (blk_cell BK.out 1).trans rfl; have f0 := blk_frozen BK.out 0; have f1 := blk_frozen BK.out 1)
      refine bodyPost_ret (results_cell_row rfl _ _ gb 37 #[.string (⟨#[]⟩ : ByteArray), .bool false] (0, 0) _ rfl (by (refine blk_put (cs := #[.string (⟨#[]⟩ : ByteArray), .bool false]) ?_ 1 _ rfl; refine blk_put (cs := #[.string (⟨#[]⟩ : ByteArray), .bool false]) ?_ 0 _ rfl; exact BK.out)) Tryd.underlying37 rfl (by kernel_rfl)) rfl ?_
      exact ⟨rfl, ((Stir.of_below HB.out (fun k => w.heap.size ≤ k)).setCell (fun _ => GW) _).setCell (fun _ => GW) _ |>.below (Nat.le_refl _) (fun _ h => h)⟩
    · have hw : IntKind.i64.wrap (k + (v.size : Int)) = k + (v.size : Int) := by rw [IntKind.wrap_i64]; omega
      have h0' : 0 ≤ k := by omega
      have h1' : k ≤ 300 := by omega
      have h2' : 300 < k + (v.size : Int) := by omega
      go_enter Tryd.func13, Tryd.ntmps13
      go_wp2_with ((with_reducible refine gate_dst (N := 6) rfl ?_); (try (refine gate_guard (by rfl) ?_; dsimp only)); refine box_event ?hg (N := 6) ?hd (cs := #[.string (⟨#[]⟩ : ByteArray), .bool false]) (t := 37) ?hr ?_; (case hd => rfl); (case hg => rfl); (case hr => first | (go_simp; done) | (go_simp; rfl)); intro gb hg w1 hbox hb; have BK := Aside0.mk hbox; have HB := Lib.hid hb; have GW : w.heap.size ≤ gb := by { rw [hg]; exact Nat.le_refl _ }; clear hg hb hbox; have q0 : w1.cell? ⟨gb, 0, none⟩ = some (.string (⟨#[]⟩ : ByteArray)) := (blk_cell BK.out 0).trans rfl; have q1 : w1.cell? ⟨gb, 1, none⟩ = some (.bool false) := (blk_cell BK.out 1).trans rfl; have f0 := blk_frozen BK.out 0; have f1 := blk_frozen BK.out 1)
      refine bodyPost_ret (results_cell_row rfl _ _ gb 37 #[.string (⟨#[]⟩ : ByteArray), .bool false] (0, 0) _ rfl (by (refine blk_put (cs := #[.string (⟨#[]⟩ : ByteArray), .bool false]) ?_ 1 _ rfl; refine blk_put (cs := #[.string (⟨#[]⟩ : ByteArray), .bool false]) ?_ 0 _ rfl; exact BK.out)) Tryd.underlying37 rfl (by kernel_rfl)) rfl ?_
      exact ⟨rfl, ((Stir.of_below HB.out (fun k => w.heap.size ≤ k)).setCell (fun _ => GW) _).setCell (fun _ => GW) _ |>.below (Nat.le_refl _) (fun _ h => h)⟩
set_option maxRecDepth 100000 in
set_option maxHeartbeats 4000000 in
theorem putr_none (s : ByteArray) (k : Int) (w : World) (h0 : 0 ≤ k) (h1 : k ≤ 300) :
    Calls Tryd.prog 13 #[.string s, .int .i64 k, .string ⟨#[]⟩] w fun e w' => e = .returned (.agg #[.string s, .bool true]) ∧ Below w.heap.size w w' := by
  go_enter Tryd.func13, Tryd.ntmps13
  go_wp2_with ((with_reducible refine gate_dst (N := 6) rfl ?_); (try (refine gate_guard (by rfl) ?_; dsimp only)); refine box_event ?hg (N := 6) ?hd (cs := #[.string (⟨#[]⟩ : ByteArray), .bool false]) (t := 37) ?hr ?_; (case hd => rfl); (case hg => rfl); (case hr => first | (go_simp; done) | (go_simp; rfl)); intro gb hg w1 hbox hb; have BK := Aside0.mk hbox; have HB := Lib.hid hb; have GW : w.heap.size ≤ gb := by { rw [hg]; exact Nat.le_refl _ }; clear hg hb hbox; have q0 : w1.cell? ⟨gb, 0, none⟩ = some (.string (⟨#[]⟩ : ByteArray)) := (blk_cell BK.out 0).trans rfl; have q1 : w1.cell? ⟨gb, 1, none⟩ = some (.bool false) := (blk_cell BK.out 1).trans rfl; have f0 := blk_frozen BK.out 0; have f1 := blk_frozen BK.out 1)
  refine bodyPost_ret (results_cell_row rfl _ _ gb 37 #[.string s, .bool true] (0, 0) _ rfl (by (refine blk_put (cs := #[.string s, .bool false]) ?_ 1 _ rfl; refine blk_put (cs := #[.string (⟨#[]⟩ : ByteArray), .bool false]) ?_ 0 _ rfl; exact BK.out)) Tryd.underlying37 rfl (by kernel_rfl)) rfl ?_
  exact ⟨rfl, ((Stir.of_below HB.out (fun k => w.heap.size ≤ k)).setCell (fun _ => GW) _).setCell (fun _ => GW) _ |>.below (Nat.le_refl _) (fun _ h => h)⟩
set_option maxRecDepth 100000 in
set_option maxHeartbeats 4000000 in
theorem putr_in (s v : ByteArray) (k : Nat) (w : World) (hs : s.size ≤ 1000000000) (hv : k + v.size ≤ 300) (hv0 : v.toList.isEmpty = false) (hvp : 0 < v.size) :
    Calls Tryd.prog 13 #[.string s, .int .i64 (k : Int), .string v] w fun e w' => e = .returned (.agg #[.string ⟨(putB s.data.toList v.data.toList k).toArray⟩, .bool true]) ∧ Below w.heap.size w w' := by
  have hw : IntKind.i64.wrap ((k : Int) + (v.size : Int)) = (k : Int) + (v.size : Int) := by rw [IntKind.wrap_i64]; omega
  have hw6 : wrap64 ((k : Int) + (v.size : Int)) = (k : Int) + (v.size : Int) := by unfold wrap64; omega
  have i0 : (k : Int) + (v.size : Int) ≤ 300 := by omega
  have i1 : (k : Int) ≤ 300 := by omega
  have hsl : s.data.toList.length = s.size := by rw [Array.length_toList]; rfl
  have hvl : v.data.toList.length = v.size := by rw [Array.length_toList]; rfl
  go_enter Tryd.func13, Tryd.ntmps13
  go_upto_region 5 with ((with_reducible refine gate_dst (N := 6) rfl ?_); (try (refine gate_guard (by rfl) ?_; dsimp only)); refine box_event ?hg (N := 6) ?hd (cs := #[.string (⟨#[]⟩ : ByteArray), .bool false]) (t := 37) ?hr ?_; (case hd => rfl); (case hg => rfl); (case hr => first | (go_simp; done) | (go_simp; rfl)); intro gb hg w1 hbox hb; have BK := Aside0.mk hbox; have HB := Lib.hid hb; have GW : w.heap.size ≤ gb := by { rw [hg]; exact Nat.le_refl _ }; clear hg hb hbox; have q0 : w1.cell? ⟨gb, 0, none⟩ = some (.string (⟨#[]⟩ : ByteArray)) := (blk_cell BK.out 0).trans rfl; have q1 : w1.cell? ⟨gb, 1, none⟩ = some (.bool false) := (blk_cell BK.out 1).trans rfl; have f0 := blk_frozen BK.out 0; have f1 := blk_frozen BK.out 1)
  clear q0 q1 f0 f1
  have hc := run_bytes_of_string (P := Tryd.prog) w1 9 43 5 s Tryd.underlying9 Tryd.underlying43 Tryd.underlying5
  have hgb := blk_lt BK.out
  have c1 : s.size ≤ grownCap w1 s.size 0 5 := grownCap_ge w1 s.size 0 5
  have c2 : grownCap w1 s.size 0 5 ≤ maxLen := grownCap_le_maxLen w1 s.size 0 5 (by simp only [maxLen]; omega)
  have hbuf := Buf.of_string w1 (gb + 1) 5 s (grownCap w1 s.size 0 5) hgb c1 c2
  have hBK2 : ∀ o, (w1.drew.alloc o).heap[gb]? = some (.cells #[.string (⟨#[]⟩ : ByteArray), .bool false] 37 (0, 0)) := fun o => blk_alloc (blk_drew BK.out) o
  have hB2 : ∀ o, Below w.heap.size w (w1.drew.alloc o) := fun o => HB.out.trans (((Stir.refl (fun _ => False) w1).drew.alloc o).below HB.out.size (fun _ h => h.elim))
  have hz2 : ∀ o, gb + 1 ≤ (w1.drew.alloc o).heap.size := fun o => by rw [World.size_alloc]; exact Nat.le_succ_of_le hgb
  generalize grownCap w1 s.size 0 5 = cp at hc hbuf c1 c2
  obtain ⟨o2, ho2⟩ : ∃ o2, o2 = (.cells (bytesRow s cp) 5 ((bytesRow s cp).size, (bytesRow s cp).size + 1) : Obj) := ⟨_, rfl⟩
  rw [← ho2] at hc hbuf
  have BK2 := Aside0.mk (hBK2 o2)
  have HB2 := Lib.hid (hB2 o2)
  have HZ2 := Lib.hid (hz2 o2)
  clear hBK2 hB2 hz2 ho2
  generalize w1.heap.size = g0 at hc hbuf
  generalize w1.drew.alloc o2 = w2 at hc hbuf BK2 HB2 HZ2
  have HBuf := Lib.hid hbuf
  clear hbuf
  go_wp2_with fail
  obtain ⟨i5, hi, hz0, hz1, hz2⟩ : ∃ i, Tryd.prog.info? 5 = some i ∧ i.zero = some (.int .u8 0) ∧ i.size = 1 ∧ i.bytes = 1 := ⟨_, rfl, rfl, rfl, rfl⟩
  have HI := Lib.hid hi
  clear hi
  go_loopw [7] (fun x wr => ∃ (n g cap : Nat), x = .slice (some ⟨g, 0, none⟩) n cap ∧ Buf wr (gb + 1) 5 g cap (s.data.toList ++ List.replicate (n - s.size) 0) ∧ s.size ≤ n ∧ (n ≤ k + v.size ∨ n = s.size) ∧ wr.heap[gb]? = some (.cells #[.string (⟨#[]⟩ : ByteArray), .bool false] 37 (0, 0)) ∧ Below w.heap.size w wr ∧ gb + 1 ≤ wr.heap.size) (fun x _ => (k + v.size - sliceLen x))
  case atStart =>
    exact ⟨s.size, g0, cp, rfl, by simpa using HBuf.out, Nat.le_refl _, .inr rfl, BK2.out, HB2.out, HZ2.out⟩
  case round =>
    obtain ⟨n, g, cap, rfl, hbu, hn, hnk, hbk, hbl, hz⟩ := hrel
    have HBu := Lib.hid hbu
    have HBk := Lib.hid hbk
    have HBl := Lib.hid hbl
    have HZ := Lib.hid hz
    clear hbu hbk hbl hz HBuf BK2 HB2 HZ2 hc
    have hln : (s.data.toList ++ List.replicate (n - s.size) (0 : UInt8)).length = n := by rw [List.length_append, List.length_replicate, hsl]; omega
    by_cases hj : n < k + v.size
    · have j1 : (n : Int) < (k : Int) + (v.size : Int) := by omega
      clear hnk
      have HLN := Lib.hid hln
      clear hln
      go_wp2_with (at_builtin; go_loud (refine wpList_append_byte rfl (.tmp 35) (.tmp 36) 43 rfl (gb + 1) 5 i5 (.int .u8 0) Tryd.underlying43 HI.out hz0 hz1 hz2 rfl g cap n (s.data.toList ++ List.replicate (n - s.size) 0) HLN.out.symm rfl (HBu.out.alloc _) _ _ 0 rfl (by rw [cell_of_row _ _ 0 _ _ _ (heap_alloc_new wr _)]; rfl) (by rw [HLN.out]; omega) (by simp; have := HZ.out; omega) ?_))
      intro g' cap' w3 hbu' hgrow
      have HBu3 := Lib.hid hbu'
      have HGr := Lib.hid hgrow
      clear hbu' hgrow
      go_wp2_with fail
      go_roundw
      case rel =>
        have h1 := HBu.out.1
        have hk1 := blk_alloc HBk.out (.cells #[.int .u8 0] 5)
        refine ⟨n + 1, g', cap', rfl, ?_, by omega, .inl (by omega), ?_, ?_, ?_⟩
        · have e : s.data.toList ++ List.replicate (n + 1 - s.size) (0 : UInt8) = s.data.toList ++ List.replicate (n - s.size) 0 ++ [0] := by
            rw [List.append_assoc, Nat.sub_add_comm hn, List.replicate_succ']
          rw [e, List.append_assoc]
          exact HBu3.out
        · exact blk_grown (blk_alloc HBk.out _) HGr.out (by intro h; injection h with h; omega)
        · exact (((Stir.of_below HBl.out (fun k => w.heap.size ≤ k)).alloc _).grown HGr.out (fun k e _ => by injection e with e; omega)).below (Nat.le_refl _) (fun _ h => h)
        · have := HGr.out.size
          rw [World.size_alloc] at this
          have := HZ.out
          omega
      case measure => simp [sliceLen]; omega
    · have j1 : ¬ (n : Int) < (k : Int) + (v.size : Int) := by omega
      have j3 : (k : Int) ≤ (n : Int) := by omega
      have hk2 : k + v.size ≤ n := by omega
      have hnc : n ≤ cap := by have := HBu.out.2.1; rw [hln] at this; exact this
      have j4 : ¬ (cap = k) := by omega
      have hdl : n - s.size = k + v.size - s.size := by omega
      have hgg : gb + 1 ≤ g := HBu.out.1
      obtain ⟨L, hL⟩ : ∃ L, L = s.data.toList ++ List.replicate (n - s.size) (0 : UInt8) := ⟨_, rfl⟩
      have HBL : Hid (Buf wr (gb + 1) 5 g cap L) := by rw [hL]; exact HBu
      have hLn : L.length = n := by rw [hL]; exact hln
      have hP : putB s.data.toList v.data.toList k = L.take k ++ v.data.toList ++ L.drop (k + v.data.toList.length) := by
        unfold putB
        rw [hL, hdl, hsl, hvl]
      clear hln HBu hnk hdl hn
      have hcopy := run_copy_string (P := Tryd.prog) wr 43 9 3 5 g k (n - k) (cap - k) v Tryd.underlying43 (fun W => by simp [go_sem]) (by omega) (fun m hm => by rw [HBL.out.cell (k + m) (by omega)]; rfl) (fun m hm => HBL.out.free (k + m) (by omega))
      have hcell := HBL.out.copied k v.data.toList (by rw [hvl, hLn]; omega)
      have hfar := setCells_far (w := wr) g (g' := gb) (by omega) (v.data.toList.map fun x => Value.int .u8 (x.toNat : Int)) k
      have hst := stir_setCells (a := w) (S := fun j => w.heap.size ≤ j) g (fun _ => by omega) (v.data.toList.map fun x => Value.int .u8 (x.toNat : Int)) k wr (Stir.of_below HBl.out _)
      have hcell' : ∀ (j : Nat) (hj : j < (putB s.data.toList v.data.toList k).length), (wr.setCells g k (v.data.toList.map fun x => Value.int .u8 (x.toNat : Int))).cell? ((⟨g, 0, none⟩ : Addr).add j) = some (.int .u8 ((putB s.data.toList v.data.toList k)[j].toNat : Int)) := by
        intro j hj
        have e : (⟨g, 0, none⟩ : Addr).add j = ⟨g, j, none⟩ := by simp [Addr.add]; exact fun h => h.symm
        have hjL : j < L.length := by rw [hP] at hj; simp at hj; rw [hLn] at hj ⊢; omega
        have := hcell j hjL
        rw [e]
        refine this.trans ?_
        simp only [hP]
      have hback := run_convert_bytes_back (P := Tryd.prog) _ 43 9 5 ⟨g, 0, none⟩ cap _ Tryd.underlying43 Tryd.underlying5 Tryd.underlying9 hcell'
      have hpl : (putB s.data.toList v.data.toList k).length = n := by rw [hP]; simp; rw [hLn]; omega
      rw [hpl] at hback
      generalize wr.setCells g k (v.data.toList.map fun x => Value.int .u8 (x.toNat : Int)) = w4 at hcopy hcell hfar hst hcell' hback
      have BK4 := Aside0.mk (hfar.trans HBk.out)
      have HST := Lib.hid hst
      clear hcell hfar hst hcell' hP hL HBl HBk HZ HI
      obtain ⟨pl, hplE⟩ : ∃ pl, pl = putB s.data.toList v.data.toList k := ⟨_, rfl⟩
      rw [← hplE] at hback hpl
      have HPL := Lib.hid hplE
      clear hplE
      have q0 : w4.cell? ⟨gb, 0, none⟩ = some (.string (⟨#[]⟩ : ByteArray)) := (blk_cell BK4.out 0).trans rfl
      have q1 : w4.cell? ⟨gb, 1, none⟩ = some (.bool false) := (blk_cell BK4.out 1).trans rfl
      have f0 := blk_frozen BK4.out 0
      have f1 := blk_frozen BK4.out 1
      go_wp2_with fail
      refine bodyPost_ret (results_cell_row rfl _ _ gb 37 #[.string ⟨pl.toArray⟩, .bool true] (0, 0) _ rfl (by (refine blk_put (cs := #[.string ⟨pl.toArray⟩, .bool false]) ?_ 1 _ rfl; refine blk_put (cs := #[.string (⟨#[]⟩ : ByteArray), .bool false]) ?_ 0 _ rfl; exact BK4.out)) Tryd.underlying37 rfl (by kernel_rfl)) rfl ?_
      exact ⟨by rw [HPL.out], (HST.out.setCell (fun _ => GW) _).setCell (fun _ => GW) _ |>.below (Nat.le_refl _) (fun _ h => h)⟩
theorem putr_any (s v : ByteArray) (k : Int) (w : World) (hs : s.size ≤ 1000000000) (hv : v.size ≤ 1000000000) :
    Calls Tryd.prog 13 #[.string s, .int .i64 k, .string v] w fun e w' => e = .returned (.agg #[.string ((putP s k v).getD ⟨#[]⟩), .bool (putP s k v).isSome]) ∧ Below w.heap.size w w' := by
  unfold putP
  by_cases h : k < 0 ∨ 300 < k ∨ 300 < k + (v.size : Int)
  · rw [if_pos h]
    exact putr_out s v k w hv h
  · rw [if_neg h]
    by_cases hz : v.size = 0
    · rw [if_pos hz, bytes_nil hz]
      exact putr_none s k w (by omega) (by omega)
    · rw [if_neg hz]
      obtain ⟨n, rfl⟩ := Int.eq_ofNat_of_zero_le (show 0 ≤ k by omega)
      exact putr_in s v n w hs (by omega) (toList_ne hz) (by omega)
end Go.Proofs.YtfmhhahhomnkbaaDoor
