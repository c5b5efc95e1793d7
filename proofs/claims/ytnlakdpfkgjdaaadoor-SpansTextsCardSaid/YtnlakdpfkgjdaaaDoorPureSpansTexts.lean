/- For every text that is no longer than the statement speaks of, the program's reading of spans and the reference's are one. No conditions. -/
import Derived.Test.YtnlakdpfkgjdaaaDoorPXb
namespace Go.Proofs.YtnlakdpfkgjdaaaDoor.Pure
open Go.RowKit Go.Pk Go.Cav Go.Proofs.YtnlakdpfkgjdaaaDoor.G Go.Proofs.YtnlakdpfkgjdaaaDoorW.PrintWords Go.Proofs.YtnlakdpfkgjdaaaDoorW.PrintLast Go.Proofs.YtnlakdpfkgjdaaaDoorW.PrintMore
theorem awake_ev : Ev (fun k => caravanlaw2_awake.f k) true := ⟨3, fun k hk => by
  obtain ⟨d, rfl⟩ : ∃ d, k = d + 3 := ⟨k - 3, by omega⟩
  exact awake_ok d⟩
theorem readP_none {s : ByteArray} (h : (readP s).2 = false) : (readP s).1 = [] := by
  unfold readP at h ⊢
  split at h
  · cases h
  · rename_i c; rw [if_neg c]
theorem readP_len (s : ByteArray) (hs : s.size ≤ 1000000) : (readP s).1.length ≤ 1000000000000 := by
  unfold readP
  split
  · have := readL_len (cutB s); have := cutB_len s; show (readL (cutB s)).length ≤ _; omega
  · simp
theorem texts_ev (s : ByteArray) : Ev (fun k => caravanlaw2_SpansTexts.f k s) true := by
  by_cases c : (s.size : Int) > 300
  · exact Ev.fn (fun k => by unfold caravanlaw2_SpansTexts.f; rw [if_pos c]) (Ev.seq awake_ev (Ev.now true))
  · have hr := rread_ev s (by omega)
    have hs := same_ev (readP s).1 (readP s).1 (readP_len s (by omega))
    rw [decide_eq_true rfl] at hs
    have e1 : spans_Read.f s = some (readP s) := by unfold spans_Read.f; rw [if_pos (by omega)]
    refine Ev.fn (f := fun k => (caravanref1_ReadSpans.f k s).bind fun b => if ((readP s).2 == b.2) = true then (caravanref1_SameSpans.f k (readP s).1 b.1).bind fun t => if t = true then (if (readP s).2 = true then (caravanlaw2_awake.f k).bind fun u => some u else if ((readP s).1.length : Int) = 0 then (caravanlaw2_awake.f k).bind fun u => some u else some false) else some false else some false)
      (fun k => by unfold caravanlaw2_SpansTexts.f; rw [if_neg c, e1]; rfl) (Ev.seq hr (Ev.fn (f := fun k => (caravanref1_SameSpans.f k (readP s).1 (readP s).1).bind fun t => if t = true then (if (readP s).2 = true then (caravanlaw2_awake.f k).bind fun u => some u else if ((readP s).1.length : Int) = 0 then (caravanlaw2_awake.f k).bind fun u => some u else some false) else some false) (fun k => by rw [if_pos (by simp)]) (Ev.seq hs (Ev.fn (f := fun k => if (readP s).2 = true then (caravanlaw2_awake.f k).bind fun u => some u else if ((readP s).1.length : Int) = 0 then (caravanlaw2_awake.f k).bind fun u => some u else some false) (fun k => by rw [if_pos rfl]) ?_))))
    have ha := Ev.seq awake_ev (f := fun _ u => some u) (Ev.now true)
    by_cases d : (readP s).2 = true
    · exact Ev.fn (fun k => by rw [if_pos d]) ha
    · exact Ev.fn (fun k => by rw [if_neg d, if_pos (by rw [readP_none (by simpa using d)]; rfl)]) ha
theorem SpansTexts : caravanlaw2_SpansTexts.Pure := fun s _ => Ev.rounds (texts_ev s)
end Go.Proofs.YtnlakdpfkgjdaaaDoor.Pure
