/- Plain laws about items, for the statements: what the statements' own maker makes of numbers may be. Conditions: the numbers are bytes. -/
import Derived.Test.YtbmimcpllpgcaaaPI4
namespace Go.Proofs.Ytbmimcpllpgcaaa.Pure
open Go.RowKit Go.Pk Go.Proofs.Ytbmimcpllpgcaaa.G Go.Proofs.YtbmimcpllpgcaaaW.PrintWords Go.Proofs.YtbmimcpllpgcaaaW.PrintLast

def dz (n : Int) : ByteArray := (caravanref1_Digits.f 9 n).getD ⟨#[]⟩
theorem dzA : ∀ i : Fin 256, caravanref1_Digits.f 9 ((i.val : Int) - 100) = some (dz ((i.val : Int) - 100)) ∧ (dz ((i.val : Int) - 100)).size ≤ 4 := by decide +kernel
theorem dzC : ∀ i : Fin 256, caravanref1_Digits.f 9 (i.val : Int) = some (dz (i.val : Int)) ∧ (dz (i.val : Int)).size ≤ 3 := by decide +kernel
theorem dzB : ∀ i : Fin 3, caravanref1_Digits.f 9 (i.val : Int) = some (dz (i.val : Int)) ∧ (dz (i.val : Int)).size = 1 := by decide +kernel
theorem dig_up {n : Int} {r : ByteArray} (h : caravanref1_Digits.f 9 n = some r) (k : Nat) (hk : 9 ≤ k) : caravanref1_Digits.f k n = some r := at_rounds (caravanref1_Digits.mono n) hk h
theorem digA (v : Nat) (h : v < 256) : ∃ d, (∀ k, 9 ≤ k → caravanref1_Digits.f k ((v : Int) - 100) = some d) ∧ d.size ≤ 4 := ⟨_, dig_up (dzA ⟨v, h⟩).1, (dzA ⟨v, h⟩).2⟩
theorem digB (v : Nat) (h : v < 3) : ∃ d, (∀ k, 9 ≤ k → caravanref1_Digits.f k (v : Int) = some d) ∧ d.size = 1 := ⟨_, dig_up (dzB ⟨v, h⟩).1, (dzB ⟨v, h⟩).2⟩
theorem digC (v : Nat) (h : v < 256) : ∃ d, (∀ k, 9 ≤ k → caravanref1_Digits.f k (v : Int) = some d) ∧ d.size ≤ 3 := ⟨_, dig_up (dzC ⟨v, h⟩).1, (dzC ⟨v, h⟩).2⟩
theorem strOf_size (l : List Int) : (strOfNums l).size = l.length := by
  unfold strOfNums
  simp [ByteArray.size]

/-- what holds of an item of c elements under the maker's hands -/
def Inv (c : Nat) (x : It) : Prop :=
  (x.k = 1 ∧ x.s.size ≤ 2 * c ∧ x.f = [] ∧ x.l = []) ∨
  (x.k = 2 ∧ x.s = ⟨#[]⟩ ∧ x.l = [] ∧ (x.f.map S29.f0).Pairwise (fun a b => lt a b = true) ∧ (∀ y ∈ x.f, y.f0.size ≤ 4 ∧ y.f1.size ≤ 4) ∧ x.f.length ≤ c ∧ (0 < c → 0 < x.f.length)) ∨
  (x.k = 3 ∧ x.s = ⟨#[]⟩ ∧ x.f = [] ∧ x.l.length = c ∧ ∀ y ∈ x.l, y.size ≤ 4) ∨
  (x.k = 4 ∧ x.s = ⟨#[]⟩ ∧ x.f = [] ∧ x.l.Pairwise (fun a b => lt a b = true) ∧ (∀ y ∈ x.l, y.size ≤ 4) ∧ x.l.length ≤ c ∧ (0 < c → 0 < x.l.length))
theorem inv_len (c : Nat) (x : It) (h : Inv c x) : x.f.length ≤ c ∧ x.l.length ≤ c := by
  rcases h with ⟨_, _, h1, h2⟩ | ⟨_, _, h1, _, _, h2, _⟩ | ⟨_, _, h1, h2, _⟩ | ⟨_, _, h1, _, _, h2, _⟩ <;> rw [h1] <;> simp <;> simp_all
theorem emp : (⟨#[]⟩ : ByteArray).toList.isEmpty = true := by decide +kernel
theorem emp0 : (⟨#[]⟩ : ByteArray).size = 0 := rfl
theorem inv_may (c : Nat) (x : It) (h : Inv c x) (h1 : 1 ≤ c ∨ x.k = 1) (h8 : c ≤ 8) (e0 : 0 ≤ x.e) (e1 : x.e ≤ 65536) : mayB x.k x.s x.f x.l x.e = true := by
  have q0 : decide (0 ≤ x.e) = true := by simpa using e0
  have q1 : decide (x.e ≤ 9007199254740992) = true := by simp; omega
  unfold mayB shapedB
  rw [q0, q1, Bool.and_true, Bool.and_true, Bool.and_eq_true]
  rcases h with ⟨k, a, b, d⟩ | ⟨k, a, b, d, e, f, g⟩ | ⟨k, a, b, d, e⟩ | ⟨k, a, b, d, e, f, g⟩
  · rw [k, b, d]
    refine ⟨by simp, ?_⟩
    simp; omega
  · have hc : 1 ≤ c := by omega
    have := g (by omega)
    rw [k, a, b, emp, (rises_pair _).2 d]
    refine ⟨?_, ?_⟩
    · simp [someB]; omega
    · rw [List.append_nil, List.all_cons, List.all_flatMap, emp0, Bool.and_eq_true, List.all_eq_true]
      refine ⟨by simp, fun y hy => ?_⟩
      have := e y hy
      simp; omega
  · have hc : 1 ≤ c := by omega
    rw [k, a, b, emp]
    refine ⟨?_, ?_⟩
    · simp [someB, d]; omega
    · rw [List.flatMap_nil, List.cons_append, List.nil_append, List.all_cons, emp0, Bool.and_eq_true, List.all_eq_true]
      refine ⟨by simp, fun y hy => ?_⟩
      have := e y hy
      simp; omega
  · have hc : 1 ≤ c := by omega
    have := g (by omega)
    rw [k, a, b, emp, (rises_pair _).2 d]
    refine ⟨?_, ?_⟩
    · simp [someB]; omega
    · rw [List.flatMap_nil, List.cons_append, List.nil_append, List.all_cons, emp0, Bool.and_eq_true, List.all_eq_true]
      refine ⟨by simp, fun y hy => ?_⟩
      have := e y hy
      simp; omega

def Made (ns : List Int) (i : Nat) (x : It) : Prop := ∃ y : It, Ev (fun k => caravanlaw5_Make.l0 k ns (i : Int) x.k x.s x.f x.l x.e) (y.k, y.s, y.f, y.l, y.e) ∧ mayB y.k y.s y.f y.l y.e = true ∧ y.f.length ≤ 8 ∧ y.l.length ≤ 8 ∧ y.e = x.e
theorem rd_at (ns : List Int) (i : Nat) (h : i < ns.length) : rd ns (i : Int) = ns[i] := by
  unfold rd; rw [Int.toNat_natCast, List.getD_eq_getElem?_getD, List.getElem?_eq_getElem h]; rfl

set_option maxHeartbeats 1000000 in
theorem next_ev (ns : List Int) (hw : ∀ x ∈ ns, (Lit.int .u8 x).wf = true) (hl : ns.length ≤ 140737488351232) (c : Nat) (hc : c < min ns.length 9 - 1) (x : It) (hx : Inv c x) :
    ∃ z : It, Inv (c + 1) z ∧ z.e = x.e ∧ ∃ K, ∀ k, K ≤ k → caravanlaw5_Make.j2 (k + 1) ns ((c + 1 : Nat) : Int) true x.k x.s x.f x.l x.e = caravanlaw5_Make.l0 k ns ((c + 1 + 1 : Nat) : Int) z.k z.s z.f z.l z.e := by
  have hi : c + 1 < ns.length := by omega
  have hb := wf_u8 (hw _ (List.getElem_mem hi))
  obtain ⟨v, hv⟩ : ∃ v : Nat, ns[c + 1] = v := ⟨(ns[c + 1]).toNat, by omega⟩
  have hr : rd ns ((c + 1 : Nat) : Int) = (v : Int) := by rw [← hv]; exact rd_at ns (c + 1) hi
  obtain ⟨dB, hdB, hdBs⟩ := digB (v % 3) (by omega)
  obtain ⟨dA, hdA, hdAs⟩ := digA v (by omega)
  have hm3 := Aside0.mk (show Int.tmod (wrap64 (v : Int)) 3 = ((v % 3 : Nat) : Int) by rw [w64 (by omega) (by omega), Int.tmod_eq_emod_of_nonneg (by omega)]; omega)
  obtain ⟨nm, hnm⟩ : ∃ nm, strOfNums [(97 + Int.tmod (v : Int) 5) % 256] ++ dB = nm := ⟨_, rfl⟩
  have hsz1 : (strOfNums [(97 + Int.tmod (v : Int) 5) % 256]).size = 1 := strOf_size _
  have hsz : nm.size = 2 := by rw [← hnm, ByteArray.size_append, hsz1, hdBs]
  have hlen := inv_len c x hx
  have hw1 := Aside0.mk (show wrap64 (((c + 1 : Nat) : Int) + 1) = ((c + 1 + 1 : Nat) : Int) by rw [w64 (by omega) (by omega)]; rfl)
  have hr := Aside0.mk hr
  rcases hx with ⟨k1, a, b, d⟩ | ⟨k1, a, b, d, e, f, g⟩ | ⟨k1, a, b, d, e⟩ | ⟨k1, a, b, d, e, f, g⟩
  · refine ⟨⟨1, x.s ++ nm, [], [], x.e⟩, .inl ⟨rfl, by dsimp only; rw [ByteArray.size_append, hsz]; omega, rfl, rfl⟩, rfl, 9, fun k hk => ?_⟩
    simp only [caravanlaw5_Make.j2]
    rw [if_pos trivial, if_pos (by omega), if_pos (by omega), hr.out, hm3.out, Option.bind_some, hdB k hk, Option.bind_some, if_pos (by rw [hsz1, hdBs]; omega), if_pos k1, hnm, if_pos (by rw [hsz]; omega), hw1.out, k1, b, d]
  · have hset := hset_ev nm dA x.f (by omega)
    obtain ⟨K, hK⟩ := hset
    refine ⟨⟨2, x.s, goH nm dA x.f false, x.l, x.e⟩, .inr (.inl ⟨rfl, a, b, goH_rise _ _ _ d, fun y hy => ?_, by have := goH_len nm dA x.f false; dsimp only; omega, fun _ => goH_pos _ _ _⟩), rfl, K + 9, fun k hk => ?_⟩
    · rcases goH_mem _ _ _ _ y hy with h | rfl
      · exact e y h
      · exact ⟨by dsimp only; omega, hdAs⟩
    · have hK' := hK k (by omega)
      dsimp only at hK'
      simp only [caravanlaw5_Make.j2]
      rw [if_pos trivial, if_pos (by omega), if_pos (by omega), hr.out, hm3.out, Option.bind_some, hdB k (by omega), Option.bind_some, if_pos (by rw [hsz1, hdBs]; omega), if_neg (by omega), if_pos k1, w64 (n := (v : Int)) (by omega) (by omega), w64 (by omega) (by omega), hdA k (by omega), Option.bind_some, hnm, hK', Option.bind_some, hw1.out, k1]
  · refine ⟨⟨3, x.s, x.f, x.l ++ [nm], x.e⟩, .inr (.inr (.inl ⟨rfl, a, b, by simp [d], fun y hy => ?_⟩)), rfl, 9, fun k hk => ?_⟩
    · rcases List.mem_append.1 hy with h | h
      · exact e y h
      · rw [List.mem_singleton.1 h, hsz]; omega
    · simp only [caravanlaw5_Make.j2]
      rw [if_pos trivial, if_pos (by omega), if_pos (by omega), hr.out, hm3.out, Option.bind_some, hdB k (by omega), Option.bind_some, if_pos (by rw [hsz1, hdBs]; omega), if_neg (by omega), if_neg (by omega), if_pos k1, if_pos (by omega), hnm, hw1.out, k1]
  · obtain ⟨K, hK⟩ := sadd_ev nm x.l (by omega)
    refine ⟨⟨4, x.s, x.f, sadd nm x.l, x.e⟩, .inr (.inr (.inr ⟨rfl, a, b, sadd_rise _ _ d, fun y hy => ?_, by have := sadd_len nm x.l; dsimp only; omega, fun _ => sadd_pos _ _⟩)), rfl, K + 9, fun k hk => ?_⟩
    · rcases (sadd_mem _ _ _).1 hy with h | rfl
      · exact e y h
      · rw [hsz]; omega
    · have hK' := hK k (by omega)
      dsimp only at hK'
      simp only [caravanlaw5_Make.j2]
      rw [if_pos trivial, if_pos (by omega), if_pos (by omega), hr.out, hm3.out, Option.bind_some, hdB k (by omega), Option.bind_some, if_pos (by rw [hsz1, hdBs]; omega), if_neg (by omega), if_neg (by omega), if_neg (by omega), hnm, hK', Option.bind_some, hw1.out, k1]

theorem make_loop (ns : List Int) (hw : ∀ x ∈ ns, (Lit.int .u8 x).wf = true) (hl : ns.length ≤ 140737488351232) (h0 : 1 ≤ ns.length) :
    ∀ c, c ≤ min ns.length 9 - 1 → ∀ x : It, Inv c x → 0 ≤ x.e → x.e ≤ 65536 → Made ns (c + 1) x := by
  refine up ?_ ?_
  · intro x hx e0 e1
    obtain ⟨n, hn⟩ : ∃ n, min ns.length 9 - 1 = n := ⟨_, rfl⟩
    rw [hn] at hx ⊢
    have hlen := inv_len n x hx
    -- the last place
    have hj : ∃ y : It, Ev (fun k => caravanlaw5_Make.j2 k ns ((n + 1 : Nat) : Int) false x.k x.s x.f x.l x.e) (y.k, y.s, y.f, y.l, y.e) ∧ mayB y.k y.s y.f y.l y.e = true ∧ y.f.length ≤ 8 ∧ y.l.length ≤ 8 ∧ y.e = x.e := by
      by_cases h1 : ns.length = 1
      · by_cases hk : x.k = 1
        · refine ⟨x, Ev.step (f := fun _ => some _) (fun k => ?_) (Ev.now _), inv_may n x hx (.inr hk) (by omega) e0 e1, by omega, by omega, rfl⟩
          simp only [caravanlaw5_Make.j2]
          rw [if_neg (by simp), if_pos (by omega), if_pos hk]
        · have hb := wf_u8 (hw _ (List.getElem_mem (show 0 < ns.length by omega)))
          obtain ⟨m, hm⟩ : ∃ m : Nat, ns[0] = m := ⟨(ns[0]).toNat, by omega⟩
          obtain ⟨d, hd, hds⟩ := digC m (by omega)
          refine ⟨⟨1, d, [], [], x.e⟩, ⟨10, fun k hk' => ?_⟩, ?_, by simp, by simp, rfl⟩
          · obtain ⟨k, rfl⟩ : ∃ q, k = q + 1 := ⟨k - 1, by omega⟩
            simp only [caravanlaw5_Make.j2]
            have hr : rd ns 0 = (m : Int) := by rw [← hm]; exact rd_at ns 0 (by omega)
            rw [if_neg (by simp), if_pos (by omega), if_neg hk, if_pos (by omega), hr, w64 (by omega) (by omega), hd k (by omega)]
            rfl
          · exact inv_may 8 ⟨1, d, [], [], x.e⟩ (.inl ⟨rfl, by dsimp only; omega, rfl, rfl⟩) (.inr rfl) (by omega) e0 e1
      · refine ⟨x, Ev.step (f := fun _ => some _) (fun k => ?_) (Ev.now _), inv_may n x hx (.inl (by omega)) (by omega) e0 e1, by omega, by omega, rfl⟩
        simp only [caravanlaw5_Make.j2]
        rw [if_neg (by simp), if_neg (by omega)]
    obtain ⟨y, hy, hq⟩ := hj
    refine ⟨y, Ev.step (fun k => ?_) hy, hq⟩
    simp only [caravanlaw5_Make.l0]
    by_cases hlt : ((n + 1 : Nat) : Int) < (ns.length : Int)
    · rw [if_pos hlt, show decide (((n + 1 : Nat) : Int) < 9) = false by simp; omega]
    · rw [if_neg hlt]
  · intro c hc ih x hx e0 e1
    have hnext := next_ev ns hw hl c hc x hx
    obtain ⟨z, hz, hze, K, hK⟩ := hnext
    obtain ⟨y, ⟨K2, hy⟩, hq⟩ := ih z hz (by rw [hze]; exact e0) (by rw [hze]; exact e1)
    refine ⟨y, ⟨K + K2 + 2, fun k hk => ?_⟩, by rw [← hze]; exact hq⟩
    obtain ⟨k, rfl⟩ : ∃ q, k = q + 2 := ⟨k - 2, by omega⟩
    have h1 := hy k (by omega)
    dsimp only at h1 ⊢
    simp only [caravanlaw5_Make.l0]
    rw [if_pos (by omega), show decide (((c + 1 : Nat) : Int) < 9) = true by simp; omega, hK k (by omega)]
    exact h1

/-- WHAT THE MAKER MAKES may be, and is small. -/
theorem make_ev (ns : List Int) (hw : ∀ x ∈ ns, (Lit.int .u8 x).wf = true) (hl : ns.length ≤ 140737488351232) (a : Int) (ha : (Lit.int .u8 a).wf = true) :
    ∃ y : It, Ev (fun k => caravanlaw5_Make.f k ns a) (y.k, y.s, y.f, y.l, y.e) ∧ mayB y.k y.s y.f y.l y.e = true ∧ y.f.length ≤ 8 ∧ y.l.length ≤ 8 ∧ (a = 1 → y.e = 0) := by
  have hab := wf_u8 ha
  by_cases h0 : ns.length = 0
  · refine ⟨⟨1, ⟨#[]⟩, [], [], 0⟩, Ev.fn (f := fun _ => some _) (fun k => ?_) (Ev.now _), by decide +kernel, by simp, by simp, fun _ => rfl⟩
    unfold caravanlaw5_Make.f
    rw [if_pos (by omega)]
  · have hb := wf_u8 (hw _ (List.getElem_mem (show 0 < ns.length by omega)))
    obtain ⟨kk, hkk, hk4⟩ : ∃ kk, wrap64 (1 + (Int.tmod (wrap64 (rd ns 0)) 4)) = kk ∧ (kk = 1 ∨ kk = 2 ∨ kk = 3 ∨ kk = 4) := by
      refine ⟨_, rfl, ?_⟩
      rw [show rd ns 0 = ns[0] from rd_at ns 0 (by omega), w64 (n := ns[0]) (by omega) (by omega), Int.tmod_eq_emod_of_nonneg (by omega), w64 (by omega) (by omega)]
      omega
    have hinv : ∀ e, Inv 0 ⟨kk, ⟨#[]⟩, [], [], e⟩ := by
      intro e
      rcases hk4 with rfl | rfl | rfl | rfl
      · exact .inl ⟨rfl, by simp [emp0], rfl, rfl⟩
      · exact .inr (.inl ⟨rfl, rfl, rfl, by simp, by simp, by simp, by omega⟩)
      · exact .inr (.inr (.inl ⟨rfl, rfl, rfl, rfl, by simp⟩))
      · exact .inr (.inr (.inr ⟨rfl, rfl, rfl, by simp, by simp, by simp, by omega⟩))
    have hw0 : wrap64 a = a := w64 (by omega) (by omega)
    by_cases h3 : Int.tmod a 3 = 0
    · obtain ⟨y, hy, q1, q2, q3, q4⟩ := make_loop ns hw hl (by omega) 0 (by omega) ⟨kk, ⟨#[]⟩, [], [], a⟩ (hinv a) (by dsimp only; omega) (by dsimp only; omega)
      refine ⟨y, Ev.fn (f := fun k => caravanlaw5_Make.j0 k ns kk (⟨#[]⟩ : ByteArray) a) (fun k => ?_) (Ev.step (fun k => by simp only [caravanlaw5_Make.j0]; rfl) hy), q1, q2, q3, fun h => by rw [h] at h3; exact absurd h3 (by decide)⟩
      unfold caravanlaw5_Make.f
      rw [if_neg (by omega), if_pos (by omega), if_pos h3, hkk, hw0]
    · obtain ⟨y, hy, q1, q2, q3, q4⟩ := make_loop ns hw hl (by omega) 0 (by omega) ⟨kk, ⟨#[]⟩, [], [], 0⟩ (hinv 0) (by simp) (by simp)
      refine ⟨y, Ev.fn (f := fun k => caravanlaw5_Make.j0 k ns kk (⟨#[]⟩ : ByteArray) 0) (fun k => ?_) (Ev.step (fun k => by simp only [caravanlaw5_Make.j0]; rfl) hy), q1, q2, q3, fun _ => q4⟩
      unfold caravanlaw5_Make.f
      rw [if_neg (by omega), if_pos (by omega), if_neg h3, hkk]
end Go.Proofs.Ytbmimcpllpgcaaa.Pure
