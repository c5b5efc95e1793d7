/- The plain statement of ItemMade: items made by numbers may be, and what the program says of them is what the document says; no condition beyond the statement's own. -/
import Derived.Test.YtbmimcpllpgcaaaPI5
import Derived.Test.YtbmimcpllpgcaaaG10
namespace Go.Proofs.Ytbmimcpllpgcaaa.Pure
open Go.RowKit Go.Pk Go.Proofs.Ytbmimcpllpgcaaa.G Go.Proofs.YtbmimcpllpgcaaaW.PrintWords Go.Proofs.YtbmimcpllpgcaaaW.PrintLast

theorem made_l1 (ns : List Int) (a : Int) (x c : It) (hm : Ev (fun k => caravanlaw5_Make.f k ns a) (x.k, x.s, x.f, x.l, x.e)) (hf : x.f.length ≤ 8) (hl : x.l.length ≤ 8) (n : Nat) (hn : n ≤ 8) :
    ∀ i, i ≤ n → ∀ F : List S29, F.length = n → Ev (fun k => caravanlaw5_ItemMade.l1 k ns a (i : Int) x.k x.s x.f x.l x.e c.k c.s F c.l c.e) true := by
  refine up ?_ ?_
  · intro F hF
    obtain ⟨K0, h0⟩ := awake_ev
    obtain ⟨K1, h1⟩ := hm
    obtain ⟨K2, h2⟩ := docsame_ev x x (by omega) (by omega)
    refine ⟨K0 + K1 + K2 + 1, fun k hk => ?_⟩
    obtain ⟨k, rfl⟩ : ∃ q, k = q + 1 := ⟨k - 1, by omega⟩
    have r0 := h0 k (by omega)
    have r1 := h1 k (by omega)
    have r2 := h2 k (by omega)
    have sm : sameB x x = true := (sameB_iff x x).2 rfl
    dsimp only at r1 r2 ⊢
    simp only [caravanlaw5_ItemMade.l1]
    rw [if_neg (by omega), r1]
    simp only [Option.bind_some, r2, sm, r0, if_true]
  · intro i hi ih F hF
    refine Ev.step (fun k => ?_) (ih (F.set i ⟨(rd_T29 F (i : Int)).f0, ⟨#[116, 117, 114, 110, 101, 100]⟩⟩) (by rw [List.length_set]; exact hF))
    simp only [caravanlaw5_ItemMade.l1]
    rw [if_pos (by omega), if_pos (by omega), w64 (by omega) (by omega)]
    rfl
theorem made_l0 (ns : List Int) (a : Int) (x c : It) (hm : Ev (fun k => caravanlaw5_Make.f k ns a) (x.k, x.s, x.f, x.l, x.e)) (hf : x.f.length ≤ 8) (hl : x.l.length ≤ 8) (hc : c.f.length ≤ 8) (n : Nat) (hn : n ≤ 8) :
    ∀ i, i ≤ n → ∀ L : List ByteArray, L.length = n → Ev (fun k => caravanlaw5_ItemMade.l0 k ns a (i : Int) x.k x.s x.f x.l x.e c.k c.s c.f L c.e) true := by
  refine up ?_ ?_
  · intro L hL
    refine Ev.step (fun k => ?_) (made_l1 ns a x ⟨c.k, c.s, c.f, L, c.e⟩ hm hf hl c.f.length hc 0 (by omega) c.f rfl)
    simp only [caravanlaw5_ItemMade.l0]
    rw [if_neg (by omega)]
    rfl
  · intro i hi ih L hL
    refine Ev.step (fun k => ?_) (ih (L.set i ⟨#[116, 117, 114, 110, 101, 100]⟩) (by rw [List.length_set]; exact hL))
    simp only [caravanlaw5_ItemMade.l0]
    rw [if_pos (by omega), if_pos (by omega), w64 (by omega) (by omega)]
    rfl

theorem ItemMade : caravanlaw5_ItemMade.Pure := by
  intro l0 l1 a2 a3 _ hs0 hw0 _ hs1 hw1 ha2 ha3
  refine Ev.rounds (g := fun k => caravanlaw5_ItemMade.f k l0 l1 a2 a3) ?_
  obtain ⟨x, hx, mx, fx, lx, _⟩ := make_ev l0 hw0 (by omega) a2 ha2
  obtain ⟨y, hy, my, fy, ly, _⟩ := make_ev l1 hw1 (by omega) a2 ha2
  have hl := made_l0 l0 a2 x x hx fx lx fx x.l.length lx 0 (by omega) x.l rfl
  have hj : Ev (fun k => caravanlaw5_ItemMade.j0 k l0 a2 false x.k x.s x.f x.l x.e x.k x.s x.f x.l x.e) true := Ev.step (fun k => by simp only [caravanlaw5_ItemMade.j0]; rw [if_neg (by simp)]; rfl) hl
  obtain ⟨K1, h1⟩ := hx
  obtain ⟨K2, h2⟩ := hy
  obtain ⟨K3, h3⟩ := same_ev x y (by omega) (by omega)
  obtain ⟨K4, h4⟩ := docsame_ev x y (by omega) (by omega)
  obtain ⟨K5, h5⟩ := docsame_ev x x (by omega) (by omega)
  obtain ⟨K6, h6⟩ := hj
  refine ⟨K1 + K2 + K3 + K4 + K5 + K6, fun k hk => ?_⟩
  have r1 := h1 k (by omega)
  have r2 := h2 k (by omega)
  have r3 := h3 k (by omega)
  have r4 := h4 k (by omega)
  have r5 := h5 k (by omega)
  have r6 := h6 k (by omega)
  have sm : sameB x x = true := (sameB_iff x x).2 rfl
  have m0 : item_May.f x.k x.s x.f x.l x.e = some true := by unfold item_May.f; rw [if_pos ⟨by omega, by omega⟩, mx]
  have al : caravanref5_Alive.f x.k x.s x.f x.l x.e (wrap64 a3) = item_Alive.f x.k x.s x.f x.l x.e (wrap64 a3) := rfl
  have ty : caravanref5_Type.f x.k x.s x.f x.l x.e = item_Type.f x.k x.s x.f x.l x.e := rfl
  obtain ⟨bal, hal⟩ : ∃ y, item_Alive.f x.k x.s x.f x.l x.e (wrap64 a3) = some y := by unfold item_Alive.f; split <;> exact ⟨_, rfl⟩
  obtain ⟨t, ht⟩ : ∃ y, item_Type.f x.k x.s x.f x.l x.e = some y := by unfold item_Type.f; (repeat' split) <;> exact ⟨_, rfl⟩
  have cp := copy_eq x (by omega) (by omega)
  dsimp only at r1 r2 r3 r4 r5 r6
  unfold caravanlaw5_ItemMade.f
  dsimp only
  rw [r1, Option.bind_some, r2, Option.bind_some, cp, Option.bind_some]
  simp only [m0, Option.bind_some, if_true, r3, r4, al, ty, hal, ht, bne_self_eq_false, Bool.false_eq_true, if_false, r5, sm, Bool.not_true]
  exact r6
end Go.Proofs.Ytbmimcpllpgcaaa.Pure
