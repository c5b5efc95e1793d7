/- What 'two' hands on: all that either of two lists has, the lesser first, and which has it: the walk. Conditions: a bound on the lists' lengths. -/
import Derived.Test.YtelgfangaigncaaSA
namespace Go.Proofs.Ytelgfangaigncaa
open Go.RowKit Go.Shelf Go.Cav
attribute [local go_sem] Oper.semAt_some

section
variable (T : Nat → Prop) (Ba Bb : Nat)
set_option maxRecDepth 100000 in
set_option maxHeartbeats 4000000 in
theorem two_in (hab : Ba ≠ Bb) (hTa : ¬ T Ba) (hTb : ¬ T Bb) (n : Nat) (hn : 1 ≤ n) (l : Nat) (as0 bs0 : List ByteArray) (J Jx : List (ByteArray × Int) → World → Prop) (W : World)
    (hJ : ∀ s A B, J s A → Own2 Ba Bb A B → J s B) (hm : as0.length + bs0.length ≤ 1000000000000)
    (hY : ∀ pre x W1, J pre W1 → pre.length < (twoL as0 bs0).length → YieldAt Fence.wide (n - 1) Try.prog l #[.string x.1, .int .i64 x.2] W1 fun e W' =>
      (e = .returned (.bool true) ∧ J (pre ++ [x]) W' ∧ Stir T W1 W') ∨ (e = .returned (.bool false) ∧ Jx (pre ++ [x]) W'))
    (ha : Holds W Ba (okk T Ba Bb) as0) (hb : Holds W Bb (okk T Ba Bb) bs0) (h0 : J [] W) :
    CallsIn Fence.wide n Try.prog 35 #[.func (.yield l) #[] #[], .pointer (some ⟨Ba, 0, none⟩), .pointer (some ⟨Bb, 0, none⟩)] W fun e W' => (∃ v, e = .returned v) ∧
      ((∃ xs, xs = twoL as0 bs0 ∧ J xs W') ∨ (∃ pre, pre <+: twoL as0 bs0 ∧ Jx pre W')) := by
  refine callsIn_of_wp Try.func35 rfl trivial ?_ rfl
  simp only [Try.ntmps35, List.size_toArray, List.length_cons, List.length_nil, Nat.reduceAdd, Nat.reduceSub, Array.replicate_succ, Array.replicate_zero, List.push_toArray, List.append_toArray, List.nil_append, List.cons_append]
  have Hba : Bb ≠ Ba := fun e => hab e.symm
  gi_wp2
  gi_loopw [] (fun wr => ∃ pre xs ys, pre ++ twoL xs ys = twoL as0 bs0 ∧ xs.length + ys.length ≤ 1000000000000 ∧ J pre wr ∧ Holds wr Ba (okk T Ba Bb) xs ∧ Holds wr Bb (okk T Ba Bb) ys) (fun wr => lenC (wr.cell? ⟨Ba, 0, none⟩) + lenC (wr.cell? ⟨Bb, 0, none⟩))
  case atStart => exact ⟨[], as0, bs0, rfl, hm, h0, ha, hb⟩
  case round =>
    obtain ⟨pre, xs, ys, htl, hlen, hJs, ⟨va, ba, ra⟩, ⟨vb, bb, rb⟩⟩ := hrel
    have HT := Lib.hid htl
    clear htl h0 ha hb
    cases xs with
    | nil =>
      cases ys with
      | nil =>
        obtain ⟨A, c, rfl, _, _⟩ := ra
        obtain ⟨B, d, rfl, _, _⟩ := rb
        have c1 := ba.cell
        have c2 := bb.cell
        simp only [List.length_nil] at c1 c2
        gi_wp2
        go_end0
        exact ⟨⟨_, rfl⟩, .inl ⟨_, by rw [← HT.out]; simp [twoL], hJs⟩⟩
      | cons y ys =>
        obtain ⟨Aa, ca, rfl, lea, ela⟩ := ra
        have ra : LReads wr (okk T Ba Bb) (.slice Aa 0 ca) [] := ⟨Aa, ca, rfl, lea, ela⟩
        clear lea ela
        simp only [List.length_nil] at ba
        obtain ⟨adb, db, rfl, hdb, hadb, zb, hd1b, hdropb⟩ := rb.cons
        clear hd1b hdropb hadb
        have eb : ((ys.length : Int) + 1 == 0) = false := by rw [beq_eq_false_iff_ne]; omega
        have slb := run_drop1 adb ys.length db hdb
        have hl : ys.length + 1 ≤ 1000000000000 := by simp only [List.length_nil, List.length_cons] at hlen; omega
        clear hlen
        have htw : pre ++ [(y, 2)] ++ twoL [] ys = twoL as0 bs0 := by rw [← HT.out, List.append_assoc, List.singleton_append]; congr 1; rw [twoL]
        have hpl : pre.length < (twoL as0 bs0).length := by rw [← htw]; simp
        have HT2 := Lib.hid htw
        have Hpl := Lib.hid hpl
        clear htw hpl HT
        have Hra := Lib.hid ra
        have Hrb := Lib.hid rb
        clear ra rb
        have c1 := ba.cell
        have c2 := bb.cell
        have f1 := ba.frozen
        have f2 := bb.frozen
        gi_wp2
        gi_big_quiet_th (fail)
        generalize nq = k1
        gi_wp2
        gi_big_quiet_th (fail)
        generalize nq = k2
        have hkk : (wr.drewN k1).drewN k2 = wr.drewN (k1 + k2) := World.drewN_drewN _ _ _
        rw [hkk]
        clear hkk
        obtain ⟨w2, hw2⟩ : ∃ w2, w2 = wr.drewN (k1 + k2) := ⟨_, rfl⟩
        rw [← hw2]
        have o2 : Own2 Ba Bb wr w2 := by rw [hw2]; exact ⟨(Stir.refl _ wr).drewN _, fun k e => by rcases e with rfl | rfl; exact ⟨_, ba, rfl⟩; exact ⟨_, bb, rfl⟩⟩
        have ba2 := boxed_drewN ba (k1 + k2)
        have bb2 := boxed_drewN bb (k1 + k2)
        have ra2 := Hra.out.touch ((Stir.refl (fun _ => False) wr).drewN (k1 + k2)) (fun _ _ e => e)
        have rb2 := Hrb.out.touch ((Stir.refl (fun _ => False) wr).drewN (k1 + k2)) (fun _ _ e => e)
        rw [← hw2] at ra2 rb2 ba2 bb2
        have zb2 : w2.cell? adb = some (.string y) := by rw [hw2]; exact cell_drewN zb _
        have hJ2 := hJ _ _ _ hJs o2
        have hml : lenC (wr.cell? ⟨Ba, 0, none⟩) + lenC (wr.cell? ⟨Bb, 0, none⟩) = 0 + (ys.length + 1) := by rw [c1, c2]; rfl
        have Hml := Lib.hid hml
        clear hml c1 c2 f1 f2 hw2  zb
        have c1 := ba2.cell
        have c2 := bb2.cell
        have f1 := ba2.frozen
        have f2 := bb2.frozen
        obtain ⟨fn, tmps, assign, body, hy, hR⟩ := hY pre (y, 2) w2 hJ2 Hpl.out
        dsimp only at hy hR
        have Hra2 := Lib.hid ra2
        have Hrb2 := Lib.hid rb2
        clear ra2 rb2 hJ2
        gi_wp2_with fail
        refine hR.mono ?_
        rintro e W3 (⟨rfl, hJ3, hk3⟩ | ⟨rfl, hJx3⟩)
        · clear hy hR c1 c2 f1 f2
          have ba3 := boxed_stir ba2 hk3 hTa
          have bb3 := boxed_stir bb2 hk3 hTb
          have ra3 := Hra2.out.touch hk3 (fun k hk => hk.1)
          have rb3 := Hrb2.out.touch hk3 (fun k hk => hk.1)
          obtain ⟨bb5, rb5, ba5, ra5, o5⟩ := drop_side T Ba Bb Bb Ba Hba (.inr ⟨rfl, rfl⟩) _ _ y ys adb db bb3 rb3 ba3 ra3
          have hJ5 := hJ _ _ _ hJ3 o5
          have Hf := Lib.hid (And.intro ba5 (And.intro ra5 (And.intro bb5 (And.intro rb5 hJ5))))
          have c1 := ba3.cell
          have c2 := bb3.cell
          have f1 := ba3.frozen
          have f2 := bb3.frozen
          clear ra3 rb3 hJ3 hk3 bb5 rb5 ba5 ra5 o5 hJ5
          gi_wp2
          obtain ⟨g1, g2, g3, g4, g5⟩ := Hf.out
          go_roundw
          case rel => exact ⟨_, _, _, HT2.out, by first | omega | (simp only [List.length_nil, List.length_cons]; omega), g5, ⟨_, g1, g2⟩, ⟨_, g3, g4⟩⟩
          case measure => rw [Hml.out, g1.cell, g3.cell]; simp only [lenC]; omega
        · clear hy hR c1 c2 f1 f2
          gi_wp2
          refine bodyPost_ret (results_none rfl _ _ _) rfl ?_
          exact ⟨⟨_, rfl⟩, .inr ⟨_, ⟨_, HT2.out⟩, hJx3⟩⟩
    | cons x xs =>
      cases ys with
      | nil =>
        obtain ⟨ada, da, rfl, hda, hada, za, hd1a, hdropa⟩ := ra.cons
        clear hd1a hdropa hada
        have ea : ((xs.length : Int) + 1 == 0) = false := by rw [beq_eq_false_iff_ne]; omega
        have sla := run_drop1 ada xs.length da hda
        obtain ⟨Ab, cb, rfl, leb, elb⟩ := rb
        have rb : LReads wr (okk T Ba Bb) (.slice Ab 0 cb) [] := ⟨Ab, cb, rfl, leb, elb⟩
        clear leb elb
        simp only [List.length_nil] at bb
        have hl : xs.length + 1 ≤ 1000000000000 := by simp only [List.length_nil, List.length_cons] at hlen; omega
        clear hlen
        have htw : pre ++ [(x, 1)] ++ twoL xs [] = twoL as0 bs0 := by rw [← HT.out, List.append_assoc, List.singleton_append]; congr 1; rw [twoL]
        have hpl : pre.length < (twoL as0 bs0).length := by rw [← htw]; simp
        have HT2 := Lib.hid htw
        have Hpl := Lib.hid hpl
        clear htw hpl HT
        have Hra := Lib.hid ra
        have Hrb := Lib.hid rb
        clear ra rb
        have c1 := ba.cell
        have c2 := bb.cell
        have f1 := ba.frozen
        have f2 := bb.frozen
        gi_wp2
        gi_big_quiet_th (fail)
        generalize nq = k1
        gi_wp2
        gi_big_quiet_th (fail)
        generalize nq = k2
        have hkk : (wr.drewN k1).drewN k2 = wr.drewN (k1 + k2) := World.drewN_drewN _ _ _
        rw [hkk]
        clear hkk
        obtain ⟨w2, hw2⟩ : ∃ w2, w2 = wr.drewN (k1 + k2) := ⟨_, rfl⟩
        rw [← hw2]
        have o2 : Own2 Ba Bb wr w2 := by rw [hw2]; exact ⟨(Stir.refl _ wr).drewN _, fun k e => by rcases e with rfl | rfl; exact ⟨_, ba, rfl⟩; exact ⟨_, bb, rfl⟩⟩
        have ba2 := boxed_drewN ba (k1 + k2)
        have bb2 := boxed_drewN bb (k1 + k2)
        have ra2 := Hra.out.touch ((Stir.refl (fun _ => False) wr).drewN (k1 + k2)) (fun _ _ e => e)
        have rb2 := Hrb.out.touch ((Stir.refl (fun _ => False) wr).drewN (k1 + k2)) (fun _ _ e => e)
        rw [← hw2] at ra2 rb2 ba2 bb2
        have za2 : w2.cell? ada = some (.string x) := by rw [hw2]; exact cell_drewN za _
        have hJ2 := hJ _ _ _ hJs o2
        have hml : lenC (wr.cell? ⟨Ba, 0, none⟩) + lenC (wr.cell? ⟨Bb, 0, none⟩) = (xs.length + 1) + 0 := by rw [c1, c2]; rfl
        have Hml := Lib.hid hml
        clear hml c1 c2 f1 f2 hw2 za 
        have c1 := ba2.cell
        have c2 := bb2.cell
        have f1 := ba2.frozen
        have f2 := bb2.frozen
        obtain ⟨fn, tmps, assign, body, hy, hR⟩ := hY pre (x, 1) w2 hJ2 Hpl.out
        dsimp only at hy hR
        have Hra2 := Lib.hid ra2
        have Hrb2 := Lib.hid rb2
        clear ra2 rb2 hJ2
        gi_wp2_with fail
        refine hR.mono ?_
        rintro e W3 (⟨rfl, hJ3, hk3⟩ | ⟨rfl, hJx3⟩)
        · clear hy hR c1 c2 f1 f2
          have ba3 := boxed_stir ba2 hk3 hTa
          have bb3 := boxed_stir bb2 hk3 hTb
          have ra3 := Hra2.out.touch hk3 (fun k hk => hk.1)
          have rb3 := Hrb2.out.touch hk3 (fun k hk => hk.1)
          obtain ⟨ba4, ra4, bb4, rb4, o4⟩ := drop_side T Ba Bb Ba Bb hab (.inl ⟨rfl, rfl⟩) _ _ x xs ada da ba3 ra3 bb3 rb3
          have hJ4 := hJ _ _ _ hJ3 o4
          have Hf := Lib.hid (And.intro ba4 (And.intro ra4 (And.intro bb4 (And.intro rb4 hJ4))))
          have c1 := ba3.cell
          have c2 := bb3.cell
          have f1 := ba3.frozen
          have f2 := bb3.frozen
          clear ra3 rb3 hJ3 hk3 ba4 ra4 bb4 rb4 o4 hJ4 
          gi_wp2
          obtain ⟨g1, g2, g3, g4, g5⟩ := Hf.out
          go_roundw
          case rel => exact ⟨_, _, _, HT2.out, by first | omega | (simp only [List.length_nil, List.length_cons]; omega), g5, ⟨_, g1, g2⟩, ⟨_, g3, g4⟩⟩
          case measure => rw [Hml.out, g1.cell, g3.cell]; simp only [lenC]; omega
        · clear hy hR c1 c2 f1 f2
          gi_wp2
          refine bodyPost_ret (results_none rfl _ _ _) rfl ?_
          exact ⟨⟨_, rfl⟩, .inr ⟨_, ⟨_, HT2.out⟩, hJx3⟩⟩
      | cons y ys =>
        by_cases hq : ltS x y = true
        · have lt1 : Op.bytesLess x.toList y.toList = true := hq
          have lt2 : Op.bytesLess y.toList x.toList = false := ltS_asymm lt1
          have eq2 : (y.toList == x.toList) = false := ltS_ne lt1
          obtain ⟨ada, da, rfl, hda, hada, za, hd1a, hdropa⟩ := ra.cons
          clear hd1a hdropa hada
          have ea : ((xs.length : Int) + 1 == 0) = false := by rw [beq_eq_false_iff_ne]; omega
          have sla := run_drop1 ada xs.length da hda
          obtain ⟨adb, db, rfl, hdb, hadb, zb, hd1b, hdropb⟩ := rb.cons
          clear hd1b hdropb hadb
          have eb : ((ys.length : Int) + 1 == 0) = false := by rw [beq_eq_false_iff_ne]; omega
          have slb := run_drop1 adb ys.length db hdb
          have hl : xs.length + ys.length + 2 ≤ 1000000000000 := by simp only [List.length_nil, List.length_cons] at hlen; omega
          clear hlen
          have htw : pre ++ [(x, 1)] ++ twoL xs (y :: ys) = twoL as0 bs0 := by rw [← HT.out, List.append_assoc, List.singleton_append]; congr 1; rw [twoL, if_pos hq]
          have hpl : pre.length < (twoL as0 bs0).length := by rw [← htw]; simp
          have HT2 := Lib.hid htw
          have Hpl := Lib.hid hpl
          clear htw hpl HT
          have Hra := Lib.hid ra
          have Hrb := Lib.hid rb
          clear ra rb
          have c1 := ba.cell
          have c2 := bb.cell
          have f1 := ba.frozen
          have f2 := bb.frozen
          gi_wp2
          gi_big_quiet_th (fail)
          generalize nq = k1
          gi_wp2
          gi_big_quiet_th (fail)
          generalize nq = k2
          have hkk : (wr.drewN k1).drewN k2 = wr.drewN (k1 + k2) := World.drewN_drewN _ _ _
          rw [hkk]
          clear hkk
          obtain ⟨w2, hw2⟩ : ∃ w2, w2 = wr.drewN (k1 + k2) := ⟨_, rfl⟩
          rw [← hw2]
          have o2 : Own2 Ba Bb wr w2 := by rw [hw2]; exact ⟨(Stir.refl _ wr).drewN _, fun k e => by rcases e with rfl | rfl; exact ⟨_, ba, rfl⟩; exact ⟨_, bb, rfl⟩⟩
          have ba2 := boxed_drewN ba (k1 + k2)
          have bb2 := boxed_drewN bb (k1 + k2)
          have ra2 := Hra.out.touch ((Stir.refl (fun _ => False) wr).drewN (k1 + k2)) (fun _ _ e => e)
          have rb2 := Hrb.out.touch ((Stir.refl (fun _ => False) wr).drewN (k1 + k2)) (fun _ _ e => e)
          rw [← hw2] at ra2 rb2 ba2 bb2
          have za2 : w2.cell? ada = some (.string x) := by rw [hw2]; exact cell_drewN za _
          have zb2 : w2.cell? adb = some (.string y) := by rw [hw2]; exact cell_drewN zb _
          have hJ2 := hJ _ _ _ hJs o2
          have hml : lenC (wr.cell? ⟨Ba, 0, none⟩) + lenC (wr.cell? ⟨Bb, 0, none⟩) = (xs.length + 1) + (ys.length + 1) := by rw [c1, c2]; rfl
          have Hml := Lib.hid hml
          clear hml c1 c2 f1 f2 hw2 za zb
          have c1 := ba2.cell
          have c2 := bb2.cell
          have f1 := ba2.frozen
          have f2 := bb2.frozen
          obtain ⟨fn, tmps, assign, body, hy, hR⟩ := hY pre (x, 1) w2 hJ2 Hpl.out
          dsimp only at hy hR
          have Hra2 := Lib.hid ra2
          have Hrb2 := Lib.hid rb2
          clear ra2 rb2 hJ2
          gi_wp2_with fail
          refine hR.mono ?_
          rintro e W3 (⟨rfl, hJ3, hk3⟩ | ⟨rfl, hJx3⟩)
          · clear hy hR c1 c2 f1 f2
            have ba3 := boxed_stir ba2 hk3 hTa
            have bb3 := boxed_stir bb2 hk3 hTb
            have ra3 := Hra2.out.touch hk3 (fun k hk => hk.1)
            have rb3 := Hrb2.out.touch hk3 (fun k hk => hk.1)
            obtain ⟨ba4, ra4, bb4, rb4, o4⟩ := drop_side T Ba Bb Ba Bb hab (.inl ⟨rfl, rfl⟩) _ _ x xs ada da ba3 ra3 bb3 rb3
            have hJ4 := hJ _ _ _ hJ3 o4
            have Hf := Lib.hid (And.intro ba4 (And.intro ra4 (And.intro bb4 (And.intro rb4 hJ4))))
            have c1 := ba3.cell
            have c2 := bb3.cell
            have f1 := ba3.frozen
            have f2 := bb3.frozen
            clear ra3 rb3 hJ3 hk3 ba4 ra4 bb4 rb4 o4 hJ4 
            gi_wp2
            obtain ⟨g1, g2, g3, g4, g5⟩ := Hf.out
            go_roundw
            case rel => exact ⟨_, _, _, HT2.out, by first | omega | (simp only [List.length_nil, List.length_cons]; omega), g5, ⟨_, g1, g2⟩, ⟨_, g3, g4⟩⟩
            case measure => rw [Hml.out, g1.cell, g3.cell]; simp only [lenC]; omega
          · clear hy hR c1 c2 f1 f2
            gi_wp2
            refine bodyPost_ret (results_none rfl _ _ _) rfl ?_
            exact ⟨⟨_, rfl⟩, .inr ⟨_, ⟨_, HT2.out⟩, hJx3⟩⟩
        · have lt1 : Op.bytesLess x.toList y.toList = false := by simpa [ltS] using hq
          by_cases hq2 : x.toList = y.toList
          · have lt2 : Op.bytesLess y.toList x.toList = false := by rw [← hq2]; exact Go.Pk.less_irrefl _
            have eq1 : (x.toList == y.toList) = true := by rw [beq_iff_eq]; exact hq2
            have eq2 : (y.toList == x.toList) = true := by rw [beq_iff_eq]; exact hq2.symm
            have Hq2 := Lib.hid hq2
            clear hq2
            obtain ⟨ada, da, rfl, hda, hada, za, hd1a, hdropa⟩ := ra.cons
            clear hd1a hdropa hada
            have ea : ((xs.length : Int) + 1 == 0) = false := by rw [beq_eq_false_iff_ne]; omega
            have sla := run_drop1 ada xs.length da hda
            obtain ⟨adb, db, rfl, hdb, hadb, zb, hd1b, hdropb⟩ := rb.cons
            clear hd1b hdropb hadb
            have eb : ((ys.length : Int) + 1 == 0) = false := by rw [beq_eq_false_iff_ne]; omega
            have slb := run_drop1 adb ys.length db hdb
            have hl : xs.length + ys.length + 2 ≤ 1000000000000 := by simp only [List.length_nil, List.length_cons] at hlen; omega
            clear hlen
            have htw : pre ++ [(y, 3)] ++ twoL xs ys = twoL as0 bs0 := by rw [← HT.out, List.append_assoc, List.singleton_append]; congr 1; rw [twoL, if_neg hq, if_pos Hq2.out]
            have hpl : pre.length < (twoL as0 bs0).length := by rw [← htw]; simp
            have HT2 := Lib.hid htw
            have Hpl := Lib.hid hpl
            clear htw hpl HT
            have Hra := Lib.hid ra
            have Hrb := Lib.hid rb
            clear ra rb
            have c1 := ba.cell
            have c2 := bb.cell
            have f1 := ba.frozen
            have f2 := bb.frozen
            gi_wp2
            gi_big_quiet_th (fail)
            generalize nq = k1
            gi_wp2
            gi_big_quiet_th (fail)
            generalize nq = k2
            have hkk : (wr.drewN k1).drewN k2 = wr.drewN (k1 + k2) := World.drewN_drewN _ _ _
            rw [hkk]
            clear hkk
            obtain ⟨w2, hw2⟩ : ∃ w2, w2 = wr.drewN (k1 + k2) := ⟨_, rfl⟩
            rw [← hw2]
            have o2 : Own2 Ba Bb wr w2 := by rw [hw2]; exact ⟨(Stir.refl _ wr).drewN _, fun k e => by rcases e with rfl | rfl; exact ⟨_, ba, rfl⟩; exact ⟨_, bb, rfl⟩⟩
            have ba2 := boxed_drewN ba (k1 + k2)
            have bb2 := boxed_drewN bb (k1 + k2)
            have ra2 := Hra.out.touch ((Stir.refl (fun _ => False) wr).drewN (k1 + k2)) (fun _ _ e => e)
            have rb2 := Hrb.out.touch ((Stir.refl (fun _ => False) wr).drewN (k1 + k2)) (fun _ _ e => e)
            rw [← hw2] at ra2 rb2 ba2 bb2
            have za2 : w2.cell? ada = some (.string x) := by rw [hw2]; exact cell_drewN za _
            have zb2 : w2.cell? adb = some (.string y) := by rw [hw2]; exact cell_drewN zb _
            have hJ2 := hJ _ _ _ hJs o2
            have hml : lenC (wr.cell? ⟨Ba, 0, none⟩) + lenC (wr.cell? ⟨Bb, 0, none⟩) = (xs.length + 1) + (ys.length + 1) := by rw [c1, c2]; rfl
            have Hml := Lib.hid hml
            clear hml c1 c2 f1 f2 hw2 za zb
            have c1 := ba2.cell
            have c2 := bb2.cell
            have f1 := ba2.frozen
            have f2 := bb2.frozen
            obtain ⟨fn, tmps, assign, body, hy, hR⟩ := hY pre (y, 3) w2 hJ2 Hpl.out
            dsimp only at hy hR
            have Hra2 := Lib.hid ra2
            have Hrb2 := Lib.hid rb2
            clear ra2 rb2 hJ2
            gi_wp2_with fail
            refine hR.mono ?_
            rintro e W3 (⟨rfl, hJ3, hk3⟩ | ⟨rfl, hJx3⟩)
            · clear hy hR c1 c2 f1 f2
              have ba3 := boxed_stir ba2 hk3 hTa
              have bb3 := boxed_stir bb2 hk3 hTb
              have ra3 := Hra2.out.touch hk3 (fun k hk => hk.1)
              have rb3 := Hrb2.out.touch hk3 (fun k hk => hk.1)
              obtain ⟨ba4, ra4, bb4, rb4, o4⟩ := drop_side T Ba Bb Ba Bb hab (.inl ⟨rfl, rfl⟩) _ _ x xs ada da ba3 ra3 bb3 rb3
              have hJ4 := hJ _ _ _ hJ3 o4
              obtain ⟨bb5, rb5, ba5, ra5, o5⟩ := drop_side T Ba Bb Bb Ba Hba (.inr ⟨rfl, rfl⟩) _ _ y ys adb db bb4 rb4 ba4 ra4
              have hJ5 := hJ _ _ _ hJ4 o5
              have Hf := Lib.hid (And.intro ba5 (And.intro ra5 (And.intro bb5 (And.intro rb5 hJ5))))
              have c1 := ba3.cell
              have c2 := bb3.cell
              have f1 := ba3.frozen
              have f2 := bb3.frozen
              have c3 := bb4.cell
              have f3 := bb4.frozen
              clear ra3 rb3 hJ3 hk3 ba4 ra4 bb4 rb4 o4 hJ4 bb5 rb5 ba5 ra5 o5 hJ5
              gi_wp2
              obtain ⟨g1, g2, g3, g4, g5⟩ := Hf.out
              go_roundw
              case rel => exact ⟨_, _, _, HT2.out, by first | omega | (simp only [List.length_nil, List.length_cons]; omega), g5, ⟨_, g1, g2⟩, ⟨_, g3, g4⟩⟩
              case measure => rw [Hml.out, g1.cell, g3.cell]; simp only [lenC]; omega
            · clear hy hR c1 c2 f1 f2
              gi_wp2
              refine bodyPost_ret (results_none rfl _ _ _) rfl ?_
              exact ⟨⟨_, rfl⟩, .inr ⟨_, ⟨_, HT2.out⟩, hJx3⟩⟩
          · have lt2 : Op.bytesLess y.toList x.toList = true := by rcases Go.Pk.less_total x.toList y.toList with h | h | h; (rw [h] at lt1; cases lt1); exact absurd h hq2; exact h
            have eq1 : (x.toList == y.toList) = false := ltS_ne lt2
            obtain ⟨ada, da, rfl, hda, hada, za, hd1a, hdropa⟩ := ra.cons
            clear hd1a hdropa hada
            have ea : ((xs.length : Int) + 1 == 0) = false := by rw [beq_eq_false_iff_ne]; omega
            have sla := run_drop1 ada xs.length da hda
            obtain ⟨adb, db, rfl, hdb, hadb, zb, hd1b, hdropb⟩ := rb.cons
            clear hd1b hdropb hadb
            have eb : ((ys.length : Int) + 1 == 0) = false := by rw [beq_eq_false_iff_ne]; omega
            have slb := run_drop1 adb ys.length db hdb
            have hl : xs.length + ys.length + 2 ≤ 1000000000000 := by simp only [List.length_nil, List.length_cons] at hlen; omega
            clear hlen
            have htw : pre ++ [(y, 2)] ++ twoL (x :: xs) ys = twoL as0 bs0 := by rw [← HT.out, List.append_assoc, List.singleton_append]; congr 1; rw [twoL, if_neg hq, if_neg hq2]
            have hpl : pre.length < (twoL as0 bs0).length := by rw [← htw]; simp
            have HT2 := Lib.hid htw
            have Hpl := Lib.hid hpl
            clear htw hpl HT
            have Hra := Lib.hid ra
            have Hrb := Lib.hid rb
            clear ra rb
            have c1 := ba.cell
            have c2 := bb.cell
            have f1 := ba.frozen
            have f2 := bb.frozen
            gi_wp2
            gi_big_quiet_th (fail)
            generalize nq = k1
            gi_wp2
            gi_big_quiet_th (fail)
            generalize nq = k2
            have hkk : (wr.drewN k1).drewN k2 = wr.drewN (k1 + k2) := World.drewN_drewN _ _ _
            rw [hkk]
            clear hkk
            obtain ⟨w2, hw2⟩ : ∃ w2, w2 = wr.drewN (k1 + k2) := ⟨_, rfl⟩
            rw [← hw2]
            have o2 : Own2 Ba Bb wr w2 := by rw [hw2]; exact ⟨(Stir.refl _ wr).drewN _, fun k e => by rcases e with rfl | rfl; exact ⟨_, ba, rfl⟩; exact ⟨_, bb, rfl⟩⟩
            have ba2 := boxed_drewN ba (k1 + k2)
            have bb2 := boxed_drewN bb (k1 + k2)
            have ra2 := Hra.out.touch ((Stir.refl (fun _ => False) wr).drewN (k1 + k2)) (fun _ _ e => e)
            have rb2 := Hrb.out.touch ((Stir.refl (fun _ => False) wr).drewN (k1 + k2)) (fun _ _ e => e)
            rw [← hw2] at ra2 rb2 ba2 bb2
            have za2 : w2.cell? ada = some (.string x) := by rw [hw2]; exact cell_drewN za _
            have zb2 : w2.cell? adb = some (.string y) := by rw [hw2]; exact cell_drewN zb _
            have hJ2 := hJ _ _ _ hJs o2
            have hml : lenC (wr.cell? ⟨Ba, 0, none⟩) + lenC (wr.cell? ⟨Bb, 0, none⟩) = (xs.length + 1) + (ys.length + 1) := by rw [c1, c2]; rfl
            have Hml := Lib.hid hml
            clear hml c1 c2 f1 f2 hw2 za zb
            have c1 := ba2.cell
            have c2 := bb2.cell
            have f1 := ba2.frozen
            have f2 := bb2.frozen
            obtain ⟨fn, tmps, assign, body, hy, hR⟩ := hY pre (y, 2) w2 hJ2 Hpl.out
            dsimp only at hy hR
            have Hra2 := Lib.hid ra2
            have Hrb2 := Lib.hid rb2
            clear ra2 rb2 hJ2
            gi_wp2_with fail
            refine hR.mono ?_
            rintro e W3 (⟨rfl, hJ3, hk3⟩ | ⟨rfl, hJx3⟩)
            · clear hy hR c1 c2 f1 f2
              have ba3 := boxed_stir ba2 hk3 hTa
              have bb3 := boxed_stir bb2 hk3 hTb
              have ra3 := Hra2.out.touch hk3 (fun k hk => hk.1)
              have rb3 := Hrb2.out.touch hk3 (fun k hk => hk.1)
              obtain ⟨bb5, rb5, ba5, ra5, o5⟩ := drop_side T Ba Bb Bb Ba Hba (.inr ⟨rfl, rfl⟩) _ _ y ys adb db bb3 rb3 ba3 ra3
              have hJ5 := hJ _ _ _ hJ3 o5
              have Hf := Lib.hid (And.intro ba5 (And.intro ra5 (And.intro bb5 (And.intro rb5 hJ5))))
              have c1 := ba3.cell
              have c2 := bb3.cell
              have f1 := ba3.frozen
              have f2 := bb3.frozen
              clear ra3 rb3 hJ3 hk3 bb5 rb5 ba5 ra5 o5 hJ5
              gi_wp2
              obtain ⟨g1, g2, g3, g4, g5⟩ := Hf.out
              go_roundw
              case rel => exact ⟨_, _, _, HT2.out, by first | omega | (simp only [List.length_nil, List.length_cons]; omega), g5, ⟨_, g1, g2⟩, ⟨_, g3, g4⟩⟩
              case measure => rw [Hml.out, g1.cell, g3.cell]; simp only [lenC]; omega
            · clear hy hR c1 c2 f1 f2
              gi_wp2
              refine bodyPost_ret (results_none rfl _ _ _) rfl ?_
              exact ⟨⟨_, rfl⟩, .inr ⟨_, ⟨_, HT2.out⟩, hJx3⟩⟩
end
end Go.Proofs.Ytelgfangaigncaa
