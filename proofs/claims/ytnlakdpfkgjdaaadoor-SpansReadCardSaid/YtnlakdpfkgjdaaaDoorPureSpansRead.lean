/- The plain law of SpansRead. No conditions. -/
import Derived.Test.YtnlakdpfkgjdaaaDoorG9
import Derived.Test.YtnlakdpfkgjdaaaDoorPSt
import Derived.Test.YtnlakdpfkgjdaaaDoorCavR
namespace Go.Proofs.YtnlakdpfkgjdaaaDoor.Pure
open Go.RowKit Go.Proofs.YtnlakdpfkgjdaaaDoor.G Go.Proofs.YtnlakdpfkgjdaaaDoorW.PrintWords Go.Proofs.YtnlakdpfkgjdaaaDoorW.PrintLast
theorem bs_size (l : List UInt8) : (bs l).size = l.length := rfl
theorem D_len {n : Int} (h0 : 0 ≤ n) (h1 : n ≤ 100000) : (D n).length ≤ 21 := dstr_size n (by omega) (by omega)
theorem pc_len {s : S31} (h : okP s) : (pc s).length ≤ 43 := by
  obtain ⟨h0, h1, h2⟩ := h
  have a := D_len h0 (by omega)
  have b := D_len (n := s.f1) (by omega) h2
  unfold pc
  split
  · rw [List.length_append, List.length_cons]; omega
  · omega
theorem dg {n : Int} (h0 : 0 ≤ n) (h1 : n ≤ 100000) (k : Nat) (hk : 21 ≤ k) : caravanref1_Digits.f k n = some (bs (D n)) := by
  obtain ⟨d, rfl⟩ : ∃ d, k = d + 21 := ⟨k - 21, by omega⟩
  exact digits_eq n (by omega) (by omega) d
theorem rd_mem {xs : List ByteArray} {i : Int} (h0 : 0 ≤ i) (h1 : i < xs.length) : rdOf ByteArray.empty xs i ∈ xs := by
  unfold rdOf
  have : i.toNat < xs.length := by omega
  rw [List.getD_eq_getElem?_getD, List.getElem?_eq_getElem this]
  exact List.getElem_mem this
theorem read_f (s : ByteArray) (h : s.size ≤ 1000000) : spans_Read.f s = some (readP s) := by unfold spans_Read.f; rw [if_pos h]
section
variable {u v : S31} (hu : okP u) (hv : okP v) (huv : u.f1 + 1 < v.f0) (hvm : v.f1 ≤ 16383)
include hu hv huv hvm
/-- the texts that nothing is read of -/
theorem all_bad : ∀ y ∈ [bs (pc u ++ 44 :: pc v) ++ (⟨#[44]⟩ : ByteArray), (⟨#[44]⟩ : ByteArray) ++ bs (pc u ++ 44 :: pc v), bs (pc u ++ 44 :: pc v) ++ (⟨#[32]⟩ : ByteArray), (bs (pc u) ++ (⟨#[44]⟩ : ByteArray)) ++ bs (D (u.f1 + 1)), (bs (D v.f0) ++ (⟨#[44]⟩ : ByteArray)) ++ bs (pc u), (bs (pc u) ++ (⟨#[44]⟩ : ByteArray)) ++ bs (pc u), (⟨#[48]⟩ : ByteArray) ++ bs (pc u ++ 44 :: pc v), bs (pc u ++ 44 :: pc v) ++ (⟨#[45]⟩ : ByteArray), bs (pc u) ++ (⟨#[44, 49, 54, 51, 56, 52]⟩ : ByteArray), bs (pc u) ++ (⟨#[45, 45, 53]⟩ : ByteArray), (bs (D u.f0) ++ (⟨#[45]⟩ : ByteArray)) ++ bs (D u.f0), (⟨#[120]⟩ : ByteArray)],
    readP y = ([], false) ∧ y.size ≤ 1000 := by
  have lu := pc_len hu
  have lv := pc_len hv
  obtain ⟨u0, u1, u2⟩ := hu
  obtain ⟨v0, v1, v2⟩ := hv
  have l1 := D_len (n := u.f1 + 1) (by omega) (by omega)
  have l2 := D_len (n := v.f0) (by omega) (by omega)
  have l3 := D_len (n := u.f0) (by omega) (by omega)
  have z1 : ∀ c : UInt8, (⟨#[c]⟩ : ByteArray).size = 1 := fun _ => rfl
  have z6 : (⟨#[44, 49, 54, 51, 56, 52]⟩ : ByteArray).size = 6 := rfl
  have z3 : (⟨#[45, 45, 53]⟩ : ByteArray).size = 3 := rfl
  have app3 : ∀ (x y : List UInt8) (c : UInt8), (bs x ++ (⟨#[c]⟩ : ByteArray)) ++ bs y = bs (x ++ c :: y) := fun x y c => by
    rw [show (⟨#[c]⟩ : ByteArray) = bs [c] from rfl, bs_app, bs_app, List.append_assoc]; rfl
  have single : ∀ n : Int, pc ⟨n, n⟩ = D n := fun n => by unfold pc; rw [if_neg (by simp)]
  intro y hy
  simp only [List.mem_cons, List.not_mem_nil, or_false] at hy
  have hu : okP u := ⟨u0, u1, u2⟩
  have hv : okP v := ⟨v0, v1, v2⟩
  rcases hy with rfl | rfl | rfl | rfl | rfl | rfl | rfl | rfl | rfl | rfl | rfl | rfl
  · exact ⟨(congrArg readP (bs_app _ [44])).trans (bad0 hu hv huv hvm), by rw [ByteArray.size_append, bs_size, z1, List.length_append, List.length_cons]; omega⟩
  · exact ⟨(congrArg readP (bs_app [44] _)).trans bad1, by rw [ByteArray.size_append, bs_size, z1, List.length_append, List.length_cons]; omega⟩
  · exact ⟨(congrArg readP (bs_app _ [32])).trans (bad2 hu hv huv hvm (by decide) (by decide)), by rw [ByteArray.size_append, bs_size, z1, List.length_append, List.length_cons]; omega⟩
  · refine ⟨(congrArg readP (app3 _ _ _)).trans ?_, by rw [ByteArray.size_append, ByteArray.size_append, bs_size, bs_size, z1]; omega⟩
    rw [← single]
    exact bad_two hu (y := ⟨u.f1 + 1, u.f1 + 1⟩) ⟨by show 0 ≤ u.f1 + 1; omega, Int.le_refl _, by show u.f1 + 1 ≤ _; omega⟩ (fun h => by have : u.f1 + 1 < u.f1 + 1 := h.1; omega)
  · refine ⟨(congrArg readP (app3 _ _ _)).trans ?_, by rw [ByteArray.size_append, ByteArray.size_append, bs_size, bs_size, z1]; omega⟩
    rw [← single]
    exact bad_two (x := ⟨v.f0, v.f0⟩) ⟨v0, Int.le_refl _, by show v.f0 ≤ _; omega⟩ hu (fun h => by have : v.f0 + 1 < u.f0 := h.1; omega)
  · refine ⟨(congrArg readP (app3 _ _ _)).trans ?_, by rw [ByteArray.size_append, ByteArray.size_append, bs_size, z1]; omega⟩
    exact bad_two hu hu (fun h => by have := h.1; omega)
  · exact ⟨(congrArg readP (bs_app [48] _)).trans (bad6 hu hv huv hvm), by rw [ByteArray.size_append, bs_size, z1, List.length_append, List.length_cons]; omega⟩
  · exact ⟨(congrArg readP (bs_app _ [45])).trans (bad2 hu hv huv hvm (by decide) (by decide)), by rw [ByteArray.size_append, bs_size, z1, List.length_append, List.length_cons]; omega⟩
  · have e16 : D 16384 = [49, 54, 51, 56, 52] := by decide +kernel
    refine ⟨(congrArg readP (bs_app _ [44, 49, 54, 51, 56, 52])).trans ?_, by rw [ByteArray.size_append, bs_size, z6]; omega⟩
    rw [show pc u ++ [44, 49, 54, 51, 56, 52] = pc u ++ 44 :: pc ⟨16384, 16384⟩ by rw [single, e16]]
    exact bad_two hu (y := ⟨16384, 16384⟩) ⟨by show (0 : Int) ≤ 16384; omega, Int.le_refl _, by show (16384 : Int) ≤ 100000; omega⟩ (fun h => by have : (16384 : Int) ≤ 16383 := h.2; omega)
  · exact ⟨(congrArg readP (bs_app _ [45, 45, 53])).trans (bad9 hu), by rw [ByteArray.size_append, bs_size, z3]; omega⟩
  · exact ⟨(congrArg readP (app3 _ _ _)).trans (bad10 hu hv huv hvm), by rw [ByteArray.size_append, ByteArray.size_append, bs_size, z1]; omega⟩
  · exact ⟨bad11, by rw [z1]; omega⟩
theorem j2_ok (x4 : Int) (h4 : 0 ≤ x4 ∧ x4 ≤ 255) (k : Nat) (hk : 30 ≤ k) : caravanlaw2_SpansRead.j2 (k + 1) x4 u.f0 u.f1 v.f0 (bs (pc u)) (bs (pc u ++ 44 :: pc v)) false = some true := by
  have lu := pc_len hu
  have lv := pc_len hv
  have hb := all_bad hu hv huv hvm
  obtain ⟨u0, u1, u2⟩ := hu
  obtain ⟨v0, v1, v2⟩ := hv
  have l1 := D_len (n := u.f1 + 1) (by omega) (by omega)
  have l2 := D_len (n := v.f0) (by omega) (by omega)
  have l3 := D_len (n := u.f0) (by omega) (by omega)
  have z1 : ∀ c : UInt8, (⟨#[c]⟩ : ByteArray).size = 1 := fun _ => rfl
  have lt : (bs (pc u ++ 44 :: pc v)).size ≤ 87 := by rw [bs_size, List.length_append, List.length_cons]; omega
  have lp : (bs (pc u)).size ≤ 43 := lu
  have la : (bs (D (u.f1 + 1))).size ≤ 21 := l1
  have lb : (bs (D v.f0)).size ≤ 21 := l2
  have lc : (bs (D u.f0)).size ≤ 21 := l3
  have haw : caravanlaw2_awake.f k = some true := by
    obtain ⟨d, rfl⟩ : ∃ d, k = d + 3 := ⟨k - 3, by omega⟩
    exact awake_ok d
  rw [caravanlaw2_SpansRead.j2, if_neg (by decide), if_pos (by omega), if_pos (by omega), if_pos (by omega), w64 (u.f1 + 1) (by omega) (by omega), dg (by omega) (by omega) k (by omega), Option.bind_some,
    if_pos (by rw [ByteArray.size_append, z1]; omega), dg v0 (by omega) k (by omega), Option.bind_some, if_pos (by omega), if_pos (by rw [ByteArray.size_append, z1]; omega), if_pos (by rw [ByteArray.size_append, z1]; omega), if_pos (by omega), if_pos (by omega),
    dg u0 (by omega) k (by omega), Option.bind_some, if_pos (by omega), Option.bind_some, if_pos (by rw [ByteArray.size_append, z1]; omega), Option.bind_some]
  have e4 : wrap64 x4 = x4 := w64 _ (by omega) (by omega)
  have hi : 0 ≤ Int.tmod x4 12 ∧ Int.tmod x4 12 < 12 := by rw [Int.tmod_eq_emod_of_nonneg h4.1]; omega
  simp only [List.length_cons, List.length_nil]
  rw [if_neg (by omega), e4]
  simp only [Nat.reduceAdd, Int.cast_ofNat_Int]
  rw [if_pos (by omega), if_pos (by omega)]
  have hy := hb _ (rd_mem (i := Int.tmod x4 12) hi.1 (by simp only [List.length_cons, List.length_nil]; omega))
  rw [read_f _ (by omega), hy.1, Option.bind_some, if_neg (by simp), if_pos (by rfl), haw]
  rfl
theorem j1_ok (x4 : Int) (h4 : 0 ≤ x4 ∧ x4 ≤ 255) (k : Nat) (hk : 31 ≤ k) : caravanlaw2_SpansRead.j1 (k + 1) x4 u.f0 u.f1 v.f0 v.f1 (bs (pc u)) (bs (pc u ++ 44 :: pc v)) = some true := by
  have lu := pc_len hu
  have lv := pc_len hv
  have lt : (bs (pc u ++ 44 :: pc v)).size ≤ 87 := by rw [bs_size, List.length_append, List.length_cons]; omega
  obtain ⟨d, rfl⟩ : ∃ d, k = d + 1 := ⟨k - 1, by omega⟩
  rw [caravanlaw2_SpansRead.j1, read_f _ (by omega), good hu hv huv hvm, Option.bind_some, if_pos rfl, if_pos (by rfl), if_pos (by show (0 : Int) < 2; omega), if_neg (by simp [rd_T31]), if_pos (by show (1 : Int) < 2; omega)]
  rw [show (!((rd_T31 [u, v] 1).f0 == v.f0) || !((rd_T31 [u, v] 1).f1 == v.f1)) = false by simp [rd_T31]]
  exact j2_ok hu hv huv hvm x4 h4 d (by omega)
theorem j0_ok (x4 : Int) (h4 : 0 ≤ x4 ∧ x4 ≤ 255) (k : Nat) (hk : 32 ≤ k) : caravanlaw2_SpansRead.j0 (k + 1) x4 u.f0 u.f1 v.f0 v.f1 (bs (pc u)) = some true := by
  have lu := pc_len hu
  have hj := fun k hk => j1_ok hu hv huv hvm x4 h4 k hk
  obtain ⟨v0, v1, v2⟩ := hv
  have l2 := D_len (n := v.f0) (by omega) (by omega)
  have l3 := D_len (n := v.f1) (by omega) (by omega)
  have z1 : ∀ c : UInt8, (⟨#[c]⟩ : ByteArray).size = 1 := fun _ => rfl
  have lp : (bs (pc u)).size ≤ 43 := lu
  have lb : (bs (D v.f0)).size ≤ 21 := l2
  have lc : (bs (D v.f1)).size ≤ 21 := l3
  obtain ⟨d, rfl⟩ : ∃ d, k = d + 1 := ⟨k - 1, by omega⟩
  have app3 : ∀ (x y : List UInt8) (c : UInt8), (bs x ++ (⟨#[c]⟩ : ByteArray)) ++ bs y = bs (x ++ c :: y) := fun x y c => by
    rw [show (⟨#[c]⟩ : ByteArray) = bs [c] from rfl, bs_app, bs_app, List.append_assoc]; rfl
  rw [caravanlaw2_SpansRead.j0, if_pos (by omega), dg v0 (by omega) _ (by omega), Option.bind_some, if_pos (by rw [ByteArray.size_append, z1]; omega)]
  by_cases c : v.f1 > v.f0
  · rw [if_pos c, if_pos (by rw [ByteArray.size_append, ByteArray.size_append, z1]; omega), dg (by omega) (by omega) _ (by omega), Option.bind_some, if_pos (by rw [ByteArray.size_append, ByteArray.size_append, ByteArray.size_append, z1, z1]; omega)]
    rw [app3, app3]
    have e : pc v = D v.f0 ++ 45 :: D v.f1 := by unfold pc; rw [if_pos c]
    have h := hj d (by omega)
    rw [e] at h
    rw [List.append_assoc, List.cons_append]
    exact h
  · rw [if_neg c, app3]
    have e : pc v = D v.f0 := by unfold pc; rw [if_neg c]
    have h := hj d (by omega)
    rw [e] at h
    exact h
end
theorem SpansRead : caravanlaw2_SpansRead.Pure := by
  intro a0 a1 a2 a3 a4 h0 h1 h2 h3 h4
  have b0 := Go.Cav.wf_u16 h0
  have b1 := Go.Cav.wf_u16 h1
  have b2 := Go.Cav.wf_u16 h2
  have b3 := Go.Cav.wf_u16 h3
  have b4 := Go.Cav.wf_u8 h4
  refine ⟨100, ?_⟩
  unfold caravanlaw2_SpansRead.f
  rw [w64 a0 (by omega) (by omega), w64 a1 (by omega) (by omega), w64 a2 (by omega) (by omega), w64 a3 (by omega) (by omega)]
  have m0 : 0 ≤ Int.tmod a0 8000 ∧ Int.tmod a0 8000 < 8000 := by rw [Int.tmod_eq_emod_of_nonneg b0.1]; omega
  have m1 : 0 ≤ Int.tmod a1 100 ∧ Int.tmod a1 100 < 100 := by rw [Int.tmod_eq_emod_of_nonneg b1.1]; omega
  have m2 : 0 ≤ Int.tmod a2 100 ∧ Int.tmod a2 100 < 100 := by rw [Int.tmod_eq_emod_of_nonneg b2.1]; omega
  have m3 : 0 ≤ Int.tmod a3 100 ∧ Int.tmod a3 100 < 100 := by rw [Int.tmod_eq_emod_of_nonneg b3.1]; omega
  generalize Int.tmod a0 8000 = a at m0 ⊢
  generalize Int.tmod a1 100 = p at m1 ⊢
  generalize Int.tmod a2 100 = q at m2 ⊢
  generalize Int.tmod a3 100 = t at m3 ⊢
  rw [w64 (a + p) (by omega) (by omega), w64 (a + p + 2) (by omega) (by omega), w64 (a + p + 2 + q) (by omega) (by omega), w64 (a + p + 2 + q + t) (by omega) (by omega)]
  have la := D_len (n := a) (by omega) (by omega)
  have lb := D_len (n := a + p) (by omega) (by omega)
  have la' : (bs (D a)).size ≤ 21 := la
  have lb' : (bs (D (a + p))).size ≤ 21 := lb
  have z1 : ∀ c : UInt8, (⟨#[c]⟩ : ByteArray).size = 1 := fun _ => rfl
  have hj := j0_ok (u := ⟨a, a + p⟩) (v := ⟨a + p + 2 + q, a + p + 2 + q + t⟩) ⟨by show 0 ≤ a; omega, by show a ≤ a + p; omega, by show a + p ≤ _; omega⟩ ⟨by show 0 ≤ a + p + 2 + q; omega, by show a + p + 2 + q ≤ a + p + 2 + q + t; omega, by show a + p + 2 + q + t ≤ _; omega⟩ (by show a + p + 1 < a + p + 2 + q; omega) (by show a + p + 2 + q + t ≤ _; omega) a4 b4 99 (by omega)
  rw [dg (by omega) (by omega) _ (by omega), Option.bind_some]
  have app3 : ∀ (x y : List UInt8) (c : UInt8), (bs x ++ (⟨#[c]⟩ : ByteArray)) ++ bs y = bs (x ++ c :: y) := fun x y c => by
    rw [show (⟨#[c]⟩ : ByteArray) = bs [c] from rfl, bs_app, bs_app, List.append_assoc]; rfl
  by_cases c : a + p > a
  · have e : pc ⟨a, a + p⟩ = D a ++ 45 :: D (a + p) := by unfold pc; rw [if_pos (by exact c)]
    rw [e] at hj
    rw [if_pos c, if_pos (by omega), dg (by omega) (by omega) _ (by omega), Option.bind_some, if_pos (by rw [ByteArray.size_append, z1]; omega), app3]
    exact hj
  · have e : pc ⟨a, a + p⟩ = D a := by unfold pc; rw [if_neg (by exact c)]
    rw [e] at hj
    rw [if_neg c]
    exact hj
end Go.Proofs.YtnlakdpfkgjdaaaDoor.Pure
