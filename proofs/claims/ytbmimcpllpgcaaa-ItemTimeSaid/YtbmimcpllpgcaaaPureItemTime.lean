/- The plain statement of ItemTime: an item is alive up to its end, and not from then on; without an end always; no condition beyond the statement's own. -/
import Derived.Test.YtbmimcpllpgcaaaPI5
import Derived.Test.YtbmimcpllpgcaaaG7
namespace Go.Proofs.Ytbmimcpllpgcaaa.Pure
open Go.RowKit Go.Pk Go.Proofs.Ytbmimcpllpgcaaa.G Go.Proofs.YtbmimcpllpgcaaaW.PrintWords Go.Proofs.YtbmimcpllpgcaaaW.PrintLast

theorem mayB_e {k : Int} {s : ByteArray} {f : List S29} {l : List ByteArray} {e e' : Int} (h : mayB k s f l e = true) (h0 : 0 ≤ e') (h1 : e' ≤ 9007199254740992) : mayB k s f l e' = true := by
  unfold mayB at h ⊢
  simp only [Bool.and_eq_true, decide_eq_true_eq] at h ⊢
  exact ⟨⟨⟨h.1.1.1, h0⟩, h1⟩, h.2⟩

theorem ItemTime : caravanlaw5_ItemTime.Pure := by
  intro l0 a1 a2 _ hs0 hw0 ha1 ha2
  have b1 := wf_u16 ha1
  have b2 := wf_u16 ha2
  refine Ev.rounds (g := fun k => caravanlaw5_ItemTime.f k l0 a1 a2) ?_
  obtain ⟨x, hx, mx, fx, lx, ex⟩ := make_ev l0 hw0 (by omega) 1 (by decide)
  have hw1 := Aside0.mk (show wrap64 (1 + a1) = 1 + a1 from w64 (by omega) (by omega))
  have hw2 := Aside0.mk (show wrap64 a1 = a1 from w64 (by omega) (by omega))
  have hw3 := Aside0.mk (show wrap64 a2 = a2 from w64 (by omega) (by omega))
  obtain ⟨K0, h0⟩ := awake_ev
  obtain ⟨K1, h1⟩ := hx
  obtain ⟨K3, h3⟩ := same_ev ⟨x.k, x.s, x.f, x.l, 1 + a1⟩ ⟨x.k, x.s, x.f, x.l, 0⟩ (by dsimp only; omega) (by dsimp only; omega)
  obtain ⟨K4, h4⟩ := docsame_ev ⟨x.k, x.s, x.f, x.l, 1 + a1⟩ ⟨x.k, x.s, x.f, x.l, 0⟩ (by dsimp only; omega) (by dsimp only; omega)
  have sm : sameB ⟨x.k, x.s, x.f, x.l, 1 + a1⟩ ⟨x.k, x.s, x.f, x.l, 0⟩ = false := by
    cases q : sameB ⟨x.k, x.s, x.f, x.l, 1 + a1⟩ ⟨x.k, x.s, x.f, x.l, 0⟩
    · rfl
    · have := (sameB_iff _ _).1 q
      simp only [It.mk.injEq] at this
      omega
  refine ⟨K0 + K1 + K3 + K4, fun k hk => ?_⟩
  have r0 := h0 k (by omega)
  have r1 := h1 k (by omega)
  have r3 := h3 k (by omega)
  have r4 := h4 k (by omega)
  have m0 : item_May.f x.k x.s x.f x.l (1 + a1) = some true := by unfold item_May.f; rw [if_pos ⟨by omega, by omega⟩, mayB_e mx (by omega) (by omega)]
  have al : item_Alive.f x.k x.s x.f x.l (1 + a1) a2 = some (decide (a2 ≤ a1)) := by
    unfold item_Alive.f; rw [if_neg (by omega)]
    congr 1
    rw [Bool.eq_iff_iff, decide_eq_true_eq, decide_eq_true_eq]; omega
  have al0 : item_Alive.f x.k x.s x.f x.l 0 a2 = some true := by unfold item_Alive.f; rw [if_pos rfl]
  dsimp only at r1 r3 r4
  rw [sm] at r3 r4
  unfold caravanlaw5_ItemTime.f
  dsimp only
  rw [r1, Option.bind_some]
  simp only [hw1.out, hw2.out, hw3.out, al, al0, m0, r3, r4, Option.bind_some, r0, beq_self_eq_true, if_true, Bool.false_eq_true, if_false]
end Go.Proofs.Ytbmimcpllpgcaaa.Pure
